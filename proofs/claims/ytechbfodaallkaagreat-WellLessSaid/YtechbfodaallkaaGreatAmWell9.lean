import Derived.Test.YtechbfodaallkaaGreatAmWell5
import Derived.Test.YtechbfodaallkaaGreatTLaw10
/- Well: the answers that the document gives. -/
set_option linter.unusedVariables false
set_option maxRecDepth 10000
set_option linter.unusedSimpArgs false
namespace Go.Proofs.YtechbfodaallkaaGreat.Am
open Go

theorem firstE_all : ∀ {l : List Int}, (∀ x ∈ l, x = 0) → firstE l = 0
  | [], _ => rfl
  | x :: l, h => by
    rw [firstE, if_pos (h x (List.mem_cons_self ..))]
    exact firstE_all fun y hy => h y (List.mem_cons_of_mem _ hy)
theorem scan_all {P : Nat → Bool} : ∀ {m k : Nat}, (∀ j, k ≤ j → j < k + m → P j = false) → scan P m k = none
  | 0, k, _ => rfl
  | m + 1, k, h => by
    rw [scan, if_neg (by rw [h k (by omega) (by omega)]; decide)]
    exact scan_all fun j h1 h2 => h j (by omega) (by omega)
theorem askc_all {ps : List (Rat × Rat)} (h : PsZ ps 100) : firstE ((ps.map pc).map askc) = 0 := firstE_all fun x hx => by
  obtain ⟨t, ht, rfl⟩ := List.mem_map.1 hx
  obtain ⟨r, hr, rfl⟩ := List.mem_map.1 ht
  exact askc_rat (h r hr).1 (h r hr).2
theorem given_ok {q : Pq} (h : q.ok) (l1 : q.ps.length ≤ 40) (l2 : q.ss.length ≤ 60) (l3 : q.hs.length ≤ 10) (hF : ask6 q.F = 0) (hG : ask6 q.G = 0) : givenF q.pl = (0, 0, 0) := by
  unfold givenF
  have e1 : q.pl.pts.length = q.ps.length := by unfold Pq.pl; simp
  have e2 : q.pl.segs.length = q.ss.length := by unfold Pq.pl; simp
  have e3 : q.pl.holes.length = q.hs.length := by unfold Pq.pl; simp
  have a1 : firstE (q.pl.pts.map askc) = 0 := askc_all h.zp
  have a2 : firstE (q.pl.holes.map askc) = 0 := askc_all h.zh
  rw [e1, e2, e3, if_neg (by omega), if_neg (by rw [a1]; decide), if_neg (by rw [a2]; decide), if_neg (fun hh => hh.elim (fun h => h hF) (fun h => h hG))]
  have hb : scan (fun i => badS q.ps.length (sgAt q.pl.segs i)) q.ss.length 0 = none := scan_all fun j _ hj => by
    have hj' : j < q.ss.length := by omega
    have hm : j < (q.ss.map sq_).length := by rw [List.length_map]; exact hj'
    have es : sgAt q.pl.segs j = sq_ (sat q.ss j) := by
      show (q.ss.map sq_).getD j ⟨0, 0, false⟩ = _
      simp [sat, List.getD, List.getElem?_eq_getElem hj']
    obtain ⟨b1, b2, b3⟩ := sat_ok h hj'
    rw [es]
    generalize sat q.ss j = s at *
    obtain ⟨a, b, f⟩ := s
    simp only at b1 b2 b3
    unfold badS sq_ mnI mxI
    simp only [Bool.or_eq_false_iff, decide_eq_false_iff_not]
    refine ⟨?_, ?_, ?_⟩
    · split <;> omega
    · split <;> omega
    · omega
  rw [hb]
abbrev R0 : Rat := ((0 : Int) : Rat)
abbrev R2 : Rat := ((2 : Int) : Rat)
def F0 : R6 := (rt R0, rt R0, rt R0, rt R0, rt R0, rt R0)
theorem z100 (z : Int) (h1 : -9223372036854775808 ≤ z) (h2 : z ≤ 9223372036854775807) : Rz (z : Rat) 100 := (Rz_int h1 h2).mono (by omega)
theorem F0_ok : F0.ok := fun x hx => by
  unfold F0 R6.l at hx
  simp only [List.mem_cons, List.not_mem_nil, or_false] at hx
  rcases hx with rfl | rfl | rfl | rfl | rfl | rfl <;> exact ⟨nb_lt _, nb_lt _⟩
theorem F0_ask : ask6 F0 = 0 := by
  show firstE [askr (rt R0), askr (rt R0), askr (rt R0), askr (rt R0), askr (rt R0), askr (rt R0)] = 0
  rw [askr_rat (z100 0 (by omega) (by omega))]
  rfl
def sqP : List (Rat × Rat) := [(R0, R0), (R2, R0), (R0, R2), (R2, R2)]
theorem sqP_z : PsZ sqP 100 := fun r hr => by
  have z0 := z100 0 (by omega) (by omega)
  have z2 := z100 2 (by omega) (by omega)
  unfold sqP at hr
  simp only [List.mem_cons, List.not_mem_nil, or_false] at hr
  rcases hr with rfl | rfl | rfl | rfl
  · exact ⟨z0, z0⟩
  · exact ⟨z2, z0⟩
  · exact ⟨z0, z2⟩
  · exact ⟨z2, z2⟩
def sqQ (ss : List Sq) : Pq := ⟨sqP, ss, [], F0, F0⟩
theorem sqQ_ok {ss : List Sq} (h : ∀ s ∈ ss, SqOk 4 s) (hn : ss.length ≤ 60) : (sqQ ss).ok := ⟨sqP_z, (fun _ h => absurd h List.not_mem_nil), h, F0_ok, F0_ok, by show 4 ≤ _; omega, by show ss.length ≤ _; omega, by show 0 ≤ _; omega⟩
theorem sqQ_given {ss : List Sq} (h : ∀ s ∈ ss, SqOk 4 s) (hn : ss.length ≤ 60) : givenF (sqQ ss).pl = (0, 0, 0) := given_ok (sqQ_ok h hn) (by show 4 ≤ _; omega) hn (by show 0 ≤ _; omega) F0_ask F0_ask
def s4 : List Sq := [(0, 1, false), (1, 3, false), (3, 2, false), (2, 0, false)]
def s5 : List Sq := s4 ++ [(0, 3, false)]
def s6 : List Sq := s5 ++ [(1, 2, false)]
instance (n : Nat) (s : Sq) : Decidable (SqOk n s) := by unfold SqOk; infer_instance
theorem s4_ok : ∀ s ∈ s4, SqOk 4 s := by decide
theorem s5_ok : ∀ s ∈ s5, SqOk 4 s := by decide
theorem s6_ok : ∀ s ∈ s6, SqOk 4 s := by decide
theorem first4 : firstQ (sqQ s4) = (0, 0, 0) := by decide +kernel
theorem first5 : (firstQ (sqQ s5)).1 = 10 := by decide +kernel
theorem first6 : firstQ (sqQ s6) = (9, 5, 4) := by decide +kernel
section
variable {H : Heap}
theorem c_firstQ {q : Pq} {x : AV} (hq : q.ok) (hg : givenF q.pl = (0, 0, 0)) (hx : freeze H x = some (.agg (plc q.pl))) : byVal (callW gp) H fid.well_First [x] = some (fdt (firstQ q)) := by
  have h := k_firstQ (h := []) hq hg
  rw [byVal_cv] at h ⊢
  have h1 : [AV.agg (plc q.pl)].mapM (freeze []) = some [.agg (plc q.pl)] := mapM1 ((imm_pl (p := q.pl) 12 (Nat.le_refl _)).2 [])
  rw [h1] at h
  rw [mapM1 hx]
  simp only [Option.bind_some] at h ⊢
  cases hc : cv gp fid.well_First [.agg (plc q.pl)] with
  | none => rw [hc] at h; cases h
  | some v =>
    rw [hc] at h
    simp only [Option.bind_some] at h ⊢
    have hv : v = fdt (firstQ q) := by
      split at h
      · exact Option.some.inj h
      · cases h
    rw [hv]
    exact if_pos (by simp [flatV])
end

theorem rc39x {a0 a1 a2 a3 a4 a5 a6 a7 a8 a9 a10 a11 a12 a13 a14 a15 a16 a17 a18 a19 a20 a21 a22 a23 a24 a25 a26 a27 a28 a29 a30 a31 a32 a33 a34 a35 a36 a37 a38 : AV} {l : List AV} : readCells (a0 :: a1 :: a2 :: a3 :: a4 :: a5 :: a6 :: a7 :: a8 :: a9 :: a10 :: a11 :: a12 :: a13 :: a14 :: a15 :: a16 :: a17 :: a18 :: a19 :: a20 :: a21 :: a22 :: a23 :: a24 :: a25 :: a26 :: a27 :: a28 :: a29 :: a30 :: a31 :: a32 :: a33 :: a34 :: a35 :: a36 :: a37 :: a38 :: l) (some 39) = some (.agg [a0, a1, a2, a3, a4, a5, a6, a7, a8, a9, a10, a11, a12, a13, a14, a15, a16, a17, a18, a19, a20, a21, a22, a23, a24, a25, a26, a27, a28, a29, a30, a31, a32, a33, a34, a35, a36, a37, a38]) := Eq.trans rfl rfl
theorem app6z {h : Heap} {a b c d e f : AV} (hc : [a, b, c, d, e, f].all AV.cell = true) : opApp h 6 (.is 0 true []) (.is 1 true [a, b, c, d, e, f]) = some (.rs 6 h.length 0 1, h ++ [some [a, b, c, d, e, f]]) := app_s0 rfl (by omega) (by omega) hc
theorem app6n {h : Heap} {id n : Nat} {a b c d e f : AV} (hl : (live h id).map List.length = some (n * 6)) (hn : n + 1 ≤ 4294967296) (hc : [a, b, c, d, e, f].all AV.cell = true) : opApp h 6 (.rs 6 id 0 n) (.is 1 true [a, b, c, d, e, f]) = some (.rs 6 h.length 0 (n + 1), h.set id none ++ [some ((live h id).getD [] ++ [a, b, c, d, e, f])]) := by
  cases hv : live h id with
  | none => rw [hv] at hl; cases hl
  | some old =>
    rw [hv] at hl
    exact app_sr hv (by simpa using hl) rfl (by omega) hn hc
theorem sr0 : opBin .rem (.int .i64 0) (.int .i64 2) = some (.int .i64 0) := Eq.trans rfl rfl
theorem sr1 : opBin .rem (.int .i64 1) (.int .i64 2) = some (.int .i64 1) := Eq.trans rfl rfl
theorem sr2 : opBin .rem (.int .i64 2) (.int .i64 2) = some (.int .i64 0) := Eq.trans rfl rfl
theorem sr3 : opBin .rem (.int .i64 3) (.int .i64 2) = some (.int .i64 1) := Eq.trans rfl rfl
theorem sd0 : opBin .quo (.int .i64 0) (.int .i64 2) = some (.int .i64 0) := Eq.trans rfl rfl
theorem sd1 : opBin .quo (.int .i64 1) (.int .i64 2) = some (.int .i64 0) := Eq.trans rfl rfl
theorem sd2 : opBin .quo (.int .i64 2) (.int .i64 2) = some (.int .i64 1) := Eq.trans rfl rfl
theorem sd3 : opBin .quo (.int .i64 3) (.int .i64 2) = some (.int .i64 1) := Eq.trans rfl rfl
theorem sm0 : opBin .mul (.int .i64 0) (.int .i64 2) = some (.int .i64 0) := Eq.trans rfl rfl
theorem sm1 : opBin .mul (.int .i64 1) (.int .i64 2) = some (.int .i64 2) := Eq.trans rfl rfl
theorem aidx_q0 {sz len id o : Nat} {k : IntKind} (h : 0 < len) : opAidx sz len (.rp id o) (.int k 0) = some (.rp id (o + 0 * sz)) := aidx_n (i := 0) h
theorem aidx_q1 {sz len id o : Nat} {k : IntKind} (h : 1 < len) : opAidx sz len (.rp id o) (.int k 1) = some (.rp id (o + 1 * sz)) := aidx_n (i := 1) h
theorem aidx_q2 {sz len id o : Nat} {k : IntKind} (h : 2 < len) : opAidx sz len (.rp id o) (.int k 2) = some (.rp id (o + 2 * sz)) := aidx_n (i := 2) h
theorem aidx_q3 {sz len id o : Nat} {k : IntKind} (h : 3 < len) : opAidx sz len (.rp id o) (.int k 3) = some (.rp id (o + 3 * sz)) := aidx_n (i := 3) h
theorem aidx_q4 {sz len id o : Nat} {k : IntKind} (h : 4 < len) : opAidx sz len (.rp id o) (.int k 4) = some (.rp id (o + 4 * sz)) := aidx_n (i := 4) h
theorem aidx_q5 {sz len id o : Nat} {k : IntKind} (h : 5 < len) : opAidx sz len (.rp id o) (.int k 5) = some (.rp id (o + 5 * sz)) := aidx_n (i := 5) h
theorem wl3 : ((3 : Nat) : Int) = 3 := rfl
theorem wl4 : ((4 : Nat) : Int) = 4 := rfl
theorem wl5 : ((5 : Nat) : Int) = 5 := rfl
theorem wl6 : ((6 : Nat) : Int) = 6 := rfl
theorem wi2 : opBin .add (.int .i64 2) (.int .i64 1) = some (.int .i64 3) := Eq.trans rfl rfl
theorem wi3 : opBin .add (.int .i64 3) (.int .i64 1) = some (.int .i64 4) := Eq.trans rfl rfl
theorem wi4 : opBin .add (.int .i64 4) (.int .i64 1) = some (.int .i64 5) := Eq.trans rfl rfl
theorem wi5 : opBin .add (.int .i64 5) (.int .i64 1) = some (.int .i64 6) := Eq.trans rfl rfl
set_option maxHeartbeats 8000000 in
theorem squareA : callW gp fid.gussetlaw10_square [] [] = some (.agg [.rs 6 5 0 4, .is 4 true [.int .i64 0, .int .i64 1, .bool false, .int .i64 1, .int .i64 3, .bool false, .int .i64 3, .int .i64 2, .bool false, .int .i64 2, .int .i64 0, .bool false], .is 0 true [], .bool (decide ((R0).num < 0)), str (nb ((R0).num.natAbs)), str (nb (R0).den), .bool (decide ((R0).num < 0)), str (nb ((R0).num.natAbs)), str (nb (R0).den), .bool (decide ((R0).num < 0)), str (nb ((R0).num.natAbs)), str (nb (R0).den), .bool (decide ((R0).num < 0)), str (nb ((R0).num.natAbs)), str (nb (R0).den), .bool (decide ((R0).num < 0)), str (nb ((R0).num.natAbs)), str (nb (R0).den), .bool (decide ((R0).num < 0)), str (nb ((R0).num.natAbs)), str (nb (R0).den), .bool (decide ((R0).num < 0)), str (nb ((R0).num.natAbs)), str (nb (R0).den), .bool (decide ((R0).num < 0)), str (nb ((R0).num.natAbs)), str (nb (R0).den), .bool (decide ((R0).num < 0)), str (nb ((R0).num.natAbs)), str (nb (R0).den), .bool (decide ((R0).num < 0)), str (nb ((R0).num.natAbs)), str (nb (R0).den), .bool (decide ((R0).num < 0)), str (nb ((R0).num.natAbs)), str (nb (R0).den), .bool (decide ((R0).num < 0)), str (nb ((R0).num.natAbs)), str (nb (R0).den)], [some [.rs 6 5 0 4, .is 4 true [.int .i64 0, .int .i64 1, .bool false, .int .i64 1, .int .i64 3, .bool false, .int .i64 3, .int .i64 2, .bool false, .int .i64 2, .int .i64 0, .bool false], .is 0 true [], .bool (decide ((R0).num < 0)), str (nb ((R0).num.natAbs)), str (nb (R0).den), .bool (decide ((R0).num < 0)), str (nb ((R0).num.natAbs)), str (nb (R0).den), .bool (decide ((R0).num < 0)), str (nb ((R0).num.natAbs)), str (nb (R0).den), .bool (decide ((R0).num < 0)), str (nb ((R0).num.natAbs)), str (nb (R0).den), .bool (decide ((R0).num < 0)), str (nb ((R0).num.natAbs)), str (nb (R0).den), .bool (decide ((R0).num < 0)), str (nb ((R0).num.natAbs)), str (nb (R0).den), .bool (decide ((R0).num < 0)), str (nb ((R0).num.natAbs)), str (nb (R0).den), .bool (decide ((R0).num < 0)), str (nb ((R0).num.natAbs)), str (nb (R0).den), .bool (decide ((R0).num < 0)), str (nb ((R0).num.natAbs)), str (nb (R0).den), .bool (decide ((R0).num < 0)), str (nb ((R0).num.natAbs)), str (nb (R0).den), .bool (decide ((R0).num < 0)), str (nb ((R0).num.natAbs)), str (nb (R0).den), .bool (decide ((R0).num < 0)), str (nb ((R0).num.natAbs)), str (nb (R0).den)], some [.rs 6 5 0 4, .is 4 true [.int .i64 0, .int .i64 1, .bool false, .int .i64 1, .int .i64 3, .bool false, .int .i64 3, .int .i64 2, .bool false, .int .i64 2, .int .i64 0, .bool false], .is 0 true [], .bool (decide ((R0).num < 0)), str (nb ((R0).num.natAbs)), str (nb (R0).den), .bool (decide ((R0).num < 0)), str (nb ((R0).num.natAbs)), str (nb (R0).den), .bool (decide ((R0).num < 0)), str (nb ((R0).num.natAbs)), str (nb (R0).den), .bool (decide ((R0).num < 0)), str (nb ((R0).num.natAbs)), str (nb (R0).den), .bool (decide ((R0).num < 0)), str (nb ((R0).num.natAbs)), str (nb (R0).den), .bool (decide ((R0).num < 0)), str (nb ((R0).num.natAbs)), str (nb (R0).den), .bool (decide ((R0).num < 0)), str (nb ((R0).num.natAbs)), str (nb (R0).den), .bool (decide ((R0).num < 0)), str (nb ((R0).num.natAbs)), str (nb (R0).den), .bool (decide ((R0).num < 0)), str (nb ((R0).num.natAbs)), str (nb (R0).den), .bool (decide ((R0).num < 0)), str (nb ((R0).num.natAbs)), str (nb (R0).den), .bool (decide ((R0).num < 0)), str (nb ((R0).num.natAbs)), str (nb (R0).den), .bool (decide ((R0).num < 0)), str (nb ((R0).num.natAbs)), str (nb (R0).den)], none, none, none, some [.bool (decide ((R0).num < 0)), str (nb ((R0).num.natAbs)), str (nb (R0).den), .bool (decide ((R0).num < 0)), str (nb ((R0).num.natAbs)), str (nb (R0).den), .bool (decide ((R2).num < 0)), str (nb ((R2).num.natAbs)), str (nb (R2).den), .bool (decide ((R0).num < 0)), str (nb ((R0).num.natAbs)), str (nb (R0).den), .bool (decide ((R0).num < 0)), str (nb ((R0).num.natAbs)), str (nb (R0).den), .bool (decide ((R2).num < 0)), str (nb ((R2).num.natAbs)), str (nb (R2).den), .bool (decide ((R2).num < 0)), str (nb ((R2).num.natAbs)), str (nb (R2).den), .bool (decide ((R2).num < 0)), str (nb ((R2).num.natAbs)), str (nb (R2).den)]]) := by
  have o0 := fun h => k_3of (h := h) (z := 0) (by omega) (by omega)
  have o2 := fun h => k_3of (h := h) (z := 2) (by omega) (by omega)
  rw [gussetlaw10_square.eq]
  unfold gussetlaw10_square.f
  simp (maxSteps := 1000000) (disch := first | exact dD | fail) only [Wd, W2d, W3d, Nat.reduceAdd, Nat.reduceMul, Nat.reduceSub]
  rw [gussetlaw10_square.l0_eq]
  simp (maxSteps := 1000000) (disch := first | exact dD | fail) only [Wd, W2d, W3d, Nat.reduceAdd, Nat.reduceMul, Nat.reduceSub, wl0, wl1, wl2, wl3, wl4, wl5, wl6, wi0, wi1, wi2, wi3, wi4, wi5, aidx_q0, o0]
  rw [gussetlaw10_square.l0_eq]
  simp (maxSteps := 1000000) (disch := first | exact dD | fail) only [Wd, W2d, W3d, Nat.reduceAdd, Nat.reduceMul, Nat.reduceSub, wl0, wl1, wl2, wl3, wl4, wl5, wl6, wi0, wi1, wi2, wi3, wi4, wi5, aidx_q1, o0]
  rw [gussetlaw10_square.l0_eq]
  simp (maxSteps := 1000000) (disch := first | exact dD | fail) only [Wd, W2d, W3d, Nat.reduceAdd, Nat.reduceMul, Nat.reduceSub, wl0, wl1, wl2, wl3, wl4, wl5, wl6, wi0, wi1, wi2, wi3, wi4, wi5, aidx_q2, o0]
  rw [gussetlaw10_square.l0_eq]
  simp (maxSteps := 1000000) (disch := first | exact dD | fail) only [Wd, W2d, W3d, Nat.reduceAdd, Nat.reduceMul, Nat.reduceSub, wl0, wl1, wl2, wl3, wl4, wl5, wl6, wi0, wi1, wi2, wi3, wi4, wi5, aidx_q3, o0]
  rw [gussetlaw10_square.l0_eq]
  simp (maxSteps := 1000000) (disch := first | exact dD | fail) only [Wd, W2d, W3d, Nat.reduceAdd, Nat.reduceMul, Nat.reduceSub, wl0, wl1, wl2, wl3, wl4, wl5, wl6, wi0, wi1, wi2, wi3, wi4, wi5, aidx_q4, o0]
  rw [gussetlaw10_square.l0_eq]
  simp (maxSteps := 1000000) (disch := first | exact dD | fail) only [Wd, W2d, W3d, Nat.reduceAdd, Nat.reduceMul, Nat.reduceSub, wl0, wl1, wl2, wl3, wl4, wl5, wl6, wi0, wi1, wi2, wi3, wi4, wi5, aidx_q5, o0]
  rw [gussetlaw10_square.l0_eq]
  simp (maxSteps := 1000000) (disch := first | exact dD | fail) only [Wd, W2d, W3d, Nat.reduceAdd, Nat.reduceMul, Nat.reduceSub, wl0, wl1, wl2, wl3, wl4, wl5, wl6]
  rw [gussetlaw10_square.l1_eq]
  simp (maxSteps := 1000000) (disch := first | exact dD | fail) only [Wd, W2d, W3d, Nat.reduceAdd, Nat.reduceMul, Nat.reduceSub, wl0, wl1, wl2, wl3, wl4, wl5, wl6, wi0, wi1, wi2, wi3, sr0, sd0, sm0, sm1, o0, o2, fill_agg, app6z, Option.getD_some]
  rw [gussetlaw10_square.l1_eq]
  simp (maxSteps := 1000000) (disch := first | exact dD | fail) only [Wd, W2d, W3d, Nat.reduceAdd, Nat.reduceMul, Nat.reduceSub, wl0, wl1, wl2, wl3, wl4, wl5, wl6, wi0, wi1, wi2, wi3, sr1, sd1, sm0, sm1, o0, o2, fill_agg, app6n, Option.getD_some]
  rw [gussetlaw10_square.l1_eq]
  simp (maxSteps := 1000000) (disch := first | exact dD | fail) only [Wd, W2d, W3d, Nat.reduceAdd, Nat.reduceMul, Nat.reduceSub, wl0, wl1, wl2, wl3, wl4, wl5, wl6, wi0, wi1, wi2, wi3, sr2, sd2, sm0, sm1, o0, o2, fill_agg, app6n, Option.getD_some]
  rw [gussetlaw10_square.l1_eq]
  simp (maxSteps := 1000000) (disch := first | exact dD | fail) only [Wd, W2d, W3d, Nat.reduceAdd, Nat.reduceMul, Nat.reduceSub, wl0, wl1, wl2, wl3, wl4, wl5, wl6, wi0, wi1, wi2, wi3, sr3, sd3, sm0, sm1, o0, o2, fill_agg, app6n, Option.getD_some]
  rw [gussetlaw10_square.l1_eq]
  simp (maxSteps := 1000000) (disch := first | exact dD | fail) only [Wd, W2d, W3d, Nat.reduceAdd, Nat.reduceMul, Nat.reduceSub, wl0, wl1, wl2, wl3, wl4, wl5, wl6, bslc_a4, rc39x]
set_option maxHeartbeats 8000000 in
theorem squareB {x0 x1 x2 x3 x4 x5 x6 : Option (List AV)} : callW gp fid.gussetlaw10_square [] [x0, x1, x2, x3, x4, x5, x6] = some (.agg [.rs 6 12 0 4, .is 4 true [.int .i64 0, .int .i64 1, .bool false, .int .i64 1, .int .i64 3, .bool false, .int .i64 3, .int .i64 2, .bool false, .int .i64 2, .int .i64 0, .bool false], .is 0 true [], .bool (decide ((R0).num < 0)), str (nb ((R0).num.natAbs)), str (nb (R0).den), .bool (decide ((R0).num < 0)), str (nb ((R0).num.natAbs)), str (nb (R0).den), .bool (decide ((R0).num < 0)), str (nb ((R0).num.natAbs)), str (nb (R0).den), .bool (decide ((R0).num < 0)), str (nb ((R0).num.natAbs)), str (nb (R0).den), .bool (decide ((R0).num < 0)), str (nb ((R0).num.natAbs)), str (nb (R0).den), .bool (decide ((R0).num < 0)), str (nb ((R0).num.natAbs)), str (nb (R0).den), .bool (decide ((R0).num < 0)), str (nb ((R0).num.natAbs)), str (nb (R0).den), .bool (decide ((R0).num < 0)), str (nb ((R0).num.natAbs)), str (nb (R0).den), .bool (decide ((R0).num < 0)), str (nb ((R0).num.natAbs)), str (nb (R0).den), .bool (decide ((R0).num < 0)), str (nb ((R0).num.natAbs)), str (nb (R0).den), .bool (decide ((R0).num < 0)), str (nb ((R0).num.natAbs)), str (nb (R0).den), .bool (decide ((R0).num < 0)), str (nb ((R0).num.natAbs)), str (nb (R0).den)], [x0, x1, x2, x3, x4, x5, x6, some [.rs 6 12 0 4, .is 4 true [.int .i64 0, .int .i64 1, .bool false, .int .i64 1, .int .i64 3, .bool false, .int .i64 3, .int .i64 2, .bool false, .int .i64 2, .int .i64 0, .bool false], .is 0 true [], .bool (decide ((R0).num < 0)), str (nb ((R0).num.natAbs)), str (nb (R0).den), .bool (decide ((R0).num < 0)), str (nb ((R0).num.natAbs)), str (nb (R0).den), .bool (decide ((R0).num < 0)), str (nb ((R0).num.natAbs)), str (nb (R0).den), .bool (decide ((R0).num < 0)), str (nb ((R0).num.natAbs)), str (nb (R0).den), .bool (decide ((R0).num < 0)), str (nb ((R0).num.natAbs)), str (nb (R0).den), .bool (decide ((R0).num < 0)), str (nb ((R0).num.natAbs)), str (nb (R0).den), .bool (decide ((R0).num < 0)), str (nb ((R0).num.natAbs)), str (nb (R0).den), .bool (decide ((R0).num < 0)), str (nb ((R0).num.natAbs)), str (nb (R0).den), .bool (decide ((R0).num < 0)), str (nb ((R0).num.natAbs)), str (nb (R0).den), .bool (decide ((R0).num < 0)), str (nb ((R0).num.natAbs)), str (nb (R0).den), .bool (decide ((R0).num < 0)), str (nb ((R0).num.natAbs)), str (nb (R0).den), .bool (decide ((R0).num < 0)), str (nb ((R0).num.natAbs)), str (nb (R0).den)], some [.rs 6 12 0 4, .is 4 true [.int .i64 0, .int .i64 1, .bool false, .int .i64 1, .int .i64 3, .bool false, .int .i64 3, .int .i64 2, .bool false, .int .i64 2, .int .i64 0, .bool false], .is 0 true [], .bool (decide ((R0).num < 0)), str (nb ((R0).num.natAbs)), str (nb (R0).den), .bool (decide ((R0).num < 0)), str (nb ((R0).num.natAbs)), str (nb (R0).den), .bool (decide ((R0).num < 0)), str (nb ((R0).num.natAbs)), str (nb (R0).den), .bool (decide ((R0).num < 0)), str (nb ((R0).num.natAbs)), str (nb (R0).den), .bool (decide ((R0).num < 0)), str (nb ((R0).num.natAbs)), str (nb (R0).den), .bool (decide ((R0).num < 0)), str (nb ((R0).num.natAbs)), str (nb (R0).den), .bool (decide ((R0).num < 0)), str (nb ((R0).num.natAbs)), str (nb (R0).den), .bool (decide ((R0).num < 0)), str (nb ((R0).num.natAbs)), str (nb (R0).den), .bool (decide ((R0).num < 0)), str (nb ((R0).num.natAbs)), str (nb (R0).den), .bool (decide ((R0).num < 0)), str (nb ((R0).num.natAbs)), str (nb (R0).den), .bool (decide ((R0).num < 0)), str (nb ((R0).num.natAbs)), str (nb (R0).den), .bool (decide ((R0).num < 0)), str (nb ((R0).num.natAbs)), str (nb (R0).den)], none, none, none, some [.bool (decide ((R0).num < 0)), str (nb ((R0).num.natAbs)), str (nb (R0).den), .bool (decide ((R0).num < 0)), str (nb ((R0).num.natAbs)), str (nb (R0).den), .bool (decide ((R2).num < 0)), str (nb ((R2).num.natAbs)), str (nb (R2).den), .bool (decide ((R0).num < 0)), str (nb ((R0).num.natAbs)), str (nb (R0).den), .bool (decide ((R0).num < 0)), str (nb ((R0).num.natAbs)), str (nb (R0).den), .bool (decide ((R2).num < 0)), str (nb ((R2).num.natAbs)), str (nb (R2).den), .bool (decide ((R2).num < 0)), str (nb ((R2).num.natAbs)), str (nb (R2).den), .bool (decide ((R2).num < 0)), str (nb ((R2).num.natAbs)), str (nb (R2).den)]]) := by
  have o0 := fun h => k_3of (h := h) (z := 0) (by omega) (by omega)
  have o2 := fun h => k_3of (h := h) (z := 2) (by omega) (by omega)
  rw [gussetlaw10_square.eq]
  unfold gussetlaw10_square.f
  simp (maxSteps := 1000000) (disch := first | exact dD | fail) only [Wd, W2d, W3d, Nat.reduceAdd, Nat.reduceMul, Nat.reduceSub]
  rw [gussetlaw10_square.l0_eq]
  simp (maxSteps := 1000000) (disch := first | exact dD | fail) only [Wd, W2d, W3d, Nat.reduceAdd, Nat.reduceMul, Nat.reduceSub, wl0, wl1, wl2, wl3, wl4, wl5, wl6, wi0, wi1, wi2, wi3, wi4, wi5, aidx_q0, o0]
  rw [gussetlaw10_square.l0_eq]
  simp (maxSteps := 1000000) (disch := first | exact dD | fail) only [Wd, W2d, W3d, Nat.reduceAdd, Nat.reduceMul, Nat.reduceSub, wl0, wl1, wl2, wl3, wl4, wl5, wl6, wi0, wi1, wi2, wi3, wi4, wi5, aidx_q1, o0]
  rw [gussetlaw10_square.l0_eq]
  simp (maxSteps := 1000000) (disch := first | exact dD | fail) only [Wd, W2d, W3d, Nat.reduceAdd, Nat.reduceMul, Nat.reduceSub, wl0, wl1, wl2, wl3, wl4, wl5, wl6, wi0, wi1, wi2, wi3, wi4, wi5, aidx_q2, o0]
  rw [gussetlaw10_square.l0_eq]
  simp (maxSteps := 1000000) (disch := first | exact dD | fail) only [Wd, W2d, W3d, Nat.reduceAdd, Nat.reduceMul, Nat.reduceSub, wl0, wl1, wl2, wl3, wl4, wl5, wl6, wi0, wi1, wi2, wi3, wi4, wi5, aidx_q3, o0]
  rw [gussetlaw10_square.l0_eq]
  simp (maxSteps := 1000000) (disch := first | exact dD | fail) only [Wd, W2d, W3d, Nat.reduceAdd, Nat.reduceMul, Nat.reduceSub, wl0, wl1, wl2, wl3, wl4, wl5, wl6, wi0, wi1, wi2, wi3, wi4, wi5, aidx_q4, o0]
  rw [gussetlaw10_square.l0_eq]
  simp (maxSteps := 1000000) (disch := first | exact dD | fail) only [Wd, W2d, W3d, Nat.reduceAdd, Nat.reduceMul, Nat.reduceSub, wl0, wl1, wl2, wl3, wl4, wl5, wl6, wi0, wi1, wi2, wi3, wi4, wi5, aidx_q5, o0]
  rw [gussetlaw10_square.l0_eq]
  simp (maxSteps := 1000000) (disch := first | exact dD | fail) only [Wd, W2d, W3d, Nat.reduceAdd, Nat.reduceMul, Nat.reduceSub, wl0, wl1, wl2, wl3, wl4, wl5, wl6]
  rw [gussetlaw10_square.l1_eq]
  simp (maxSteps := 1000000) (disch := first | exact dD | fail) only [Wd, W2d, W3d, Nat.reduceAdd, Nat.reduceMul, Nat.reduceSub, wl0, wl1, wl2, wl3, wl4, wl5, wl6, wi0, wi1, wi2, wi3, sr0, sd0, sm0, sm1, o0, o2, fill_agg, app6z, Option.getD_some]
  rw [gussetlaw10_square.l1_eq]
  simp (maxSteps := 1000000) (disch := first | exact dD | fail) only [Wd, W2d, W3d, Nat.reduceAdd, Nat.reduceMul, Nat.reduceSub, wl0, wl1, wl2, wl3, wl4, wl5, wl6, wi0, wi1, wi2, wi3, sr1, sd1, sm0, sm1, o0, o2, fill_agg, app6n, Option.getD_some]
  rw [gussetlaw10_square.l1_eq]
  simp (maxSteps := 1000000) (disch := first | exact dD | fail) only [Wd, W2d, W3d, Nat.reduceAdd, Nat.reduceMul, Nat.reduceSub, wl0, wl1, wl2, wl3, wl4, wl5, wl6, wi0, wi1, wi2, wi3, sr2, sd2, sm0, sm1, o0, o2, fill_agg, app6n, Option.getD_some]
  rw [gussetlaw10_square.l1_eq]
  simp (maxSteps := 1000000) (disch := first | exact dD | fail) only [Wd, W2d, W3d, Nat.reduceAdd, Nat.reduceMul, Nat.reduceSub, wl0, wl1, wl2, wl3, wl4, wl5, wl6, wi0, wi1, wi2, wi3, sr3, sd3, sm0, sm1, o0, o2, fill_agg, app6n, Option.getD_some]
  rw [gussetlaw10_square.l1_eq]
  simp (maxSteps := 1000000) (disch := first | exact dD | fail) only [Wd, W2d, W3d, Nat.reduceAdd, Nat.reduceMul, Nat.reduceSub, wl0, wl1, wl2, wl3, wl4, wl5, wl6, bslc_a4, rc39x]
end Go.Proofs.YtechbfodaallkaaGreat.Am
