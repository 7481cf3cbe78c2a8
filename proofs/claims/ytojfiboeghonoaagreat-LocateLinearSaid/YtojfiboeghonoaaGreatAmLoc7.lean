import Derived.Test.YtojfiboeghonoaaGreatAmLoc6
/- Where points lie in a mesh: what a function is at a point, whole. -/
set_option linter.unusedVariables false
set_option maxRecDepth 10000
set_option linter.unusedSimpArgs false
namespace Go.Proofs.YtojfiboeghonoaaGreat.Am
open Go

abbrev z3 : List AV := [.bool false, .str ⟨#[]⟩, .str ⟨#[]⟩]
def valR (q : Mq) (us : List Rat) (x y : Rat) : Option Nat → AV
  | some i => .tup [ra (valQ q us i x y), .bool true, .int .i64 0]
  | none => .tup [ra 0, .bool false, .int .i64 0]
theorem fzv {H : Heap} {q : Rat} {b : Bool} {z : Int} : freeze H (.tup [.agg (rcl q), .bool b, .int .i64 z]) = some (.tup [ra q, .bool b, .int .i64 z]) := frz_tup3 rfl rfl rfl
theorem fzz {H : Heap} {b : Bool} {z : Int} : freeze H (.tup [.agg z3, .bool b, .int .i64 z]) = some (.tup [.agg z3, .bool b, .int .i64 z]) := frz_tup3 rfl rfl rfl
theorem of0 {h : Heap} : byVal (callW gp) h fid.rat_Of [.int .i64 0] = some (ra 0) := k_rof (z := 0) (by decide) (by decide)
section
variable {q : Mq} {i : Nat} {x y : Rat} {us : List Rat} {h : Heap}
theorem rz0 : Rz 0 8 := Rz_int (z := 0) (by decide) (by decide)
theorem st_set3 {H : Heap} {id : Nat} {z : List AV} {a b c : AV} (hc : [a, b, c].all AV.cell = true) (h : live H id = some z) (hz : z.length = 3) : opStore H 3 (.rp id 0) (.agg [a, b, c]) = some (H.set id (some [a, b, c])) := by
  have e : z.drop 3 = [] := List.drop_of_length_le (by omega)
  rw [st_rp, h, Option.bind_some, stc_agg (n := 3) (new := [a, b, c]) ⟨rfl, hc⟩ (by omega), List.take_zero, List.nil_append, Nat.zero_add, e, List.append_nil]
theorem lval_end {f : Bool} {H : Heap} {y3 y5 yt yw : AV} {sid : Nat} {v : Rat} (hs : live H sid = some (rcl v)) {z : List AV} (h2 : live H 2 = some z) (hz : z.length = 3) : zf0m.l1 (.is us.length f (rcs us)) y3 y5 (.rp 2 0) yt yw (.rp sid 0) (.int .i64 ((3 : Nat) : Int)) H = some (.tup [ra v, .bool true, .int .i64 0]) := by
  have lk : opBin .lss (.int .i64 ((3 : Nat) : Int)) (.int .i64 3) = some (.bool false) := rfl
  have st : opStore H 3 (.rp 2 0) (ra v) = some (H.set 2 (some (rcl v))) := st_set3 rfl h2 hz
  have g := live_set_self (cs := rcl v) h2
  rw [zf0m.l1_eq]
  simp (disch := first | exact dD | fail) only [Wd, W2d, W3d, Nat.reduceAdd, Nat.reduceMul, Nat.reduceSub, lk, hs, st, g, rcl_rd]
  exact fzv
set_option maxHeartbeats 8000000 in
theorem lval_l1 (hq : q.ok) (hx : Rz x 40) (hy : Rz y 40) (hi : i < q.ts.length) (hu : us.length = q.ps.length) (hus : UsZ us 300) {f : Bool} {H : Heap} {tid wid sid : Nat}
    (h0 : live H 0 = some (msc q.ms)) (h1 : live H 1 = some (ptc (pc (x, y)))) (ht : live H tid = some (tc (tat q.ts i))) (hw : live H wid = some (rcl (areaT q.ps (tat q.ts i)))) (hsv : live H sid = some (rcl 0)) (n0 : sid ≠ 0) (n1 : sid ≠ 1) (nt : sid ≠ tid) (nw : sid ≠ wid) (n2 : sid ≠ 2) {z : List AV} (h2 : live H 2 = some z) (hz : z.length = 3) :
    zf0m.l1 (.is us.length f (rcs us)) (.rp 0 0) (.rp 1 0) (.rp 2 0) (.rp tid 0) (.rp wid 0) (.rp sid 0) (.int .i64 ((0 : Nat) : Int)) H = some (valR q us x y (some i)) := by
  have s0 := sh_sz hq hx hy hi (k := 0) (by omega) hu hus
  have s1 := sh_sz hq hx hy hi (k := 1) (by omega) hu hus
  refine lval_step hq hx hy hi (k := 0) (by omega) hu hus (s := 0) (rz0.mono (by omega)) h0 h1 ht hw hsv n0 n1 nt nw h2 n2 fun H' g0 g1 g2 gt gw gs => ?_
  refine lval_step hq hx hy hi (k := 1) (by omega) hu hus (s := 0 + shQ q us i x y 0) ((rz0.add s0).mono (by omega)) g0 g1 gt gw gs n0 n1 nt nw g2 n2 fun H' g0 g1 g2 gt gw gs => ?_
  refine lval_step hq hx hy hi (k := 2) (by omega) hu hus (s := 0 + shQ q us i x y 0 + shQ q us i x y 1) (((rz0.add s0).add s1).mono (by omega)) g0 g1 gt gw gs n0 n1 nt nw g2 n2 fun H' g0 g1 g2 gt gw gs => ?_
  exact lval_end gs g2 hz
set_option maxHeartbeats 8000000 in
theorem lval_main (hq : q.ok) (hx : Rz x 40) (hy : Rz y 40) (hu : us.length = q.ps.length) (hus : UsZ us 300) {f : Bool} {H : Heap} {y38 : AV}
    (h0 : live H 0 = some (msc q.ms)) (h1 : live H 1 = some (ptc (pc (x, y)))) {z : List AV} (h2 : live H 2 = some z) (hz : z.length = 3) :
    zf0m.l0 (.is us.length f (rcs us)) (.rp 0 0) (.rp 1 0) (.rp 2 0) y38 (.int .i64 (us.length : Int)) (.int .i64 (us.length : Int)) H = some (valR q us x y (atI q.ps q.ts x y q.ts.length 0)) := by
  have fa : ∀ k id off, opFaddr k (.rp id off) = some (.rp id (off + k)) := fun _ _ _ => rfl
  have m1 := hq.n1
  have m2 := hq.n2
  have lk : opBin .lss (.int .i64 (us.length : Int)) (.int .i64 (us.length : Int)) = some (.bool false) := lssF (by omega)
  have ka := fun h => k_lasked (h := h) hq (p := pc (x, y)) (pcm_ok [(x, y)] _ (by simp))
  have e : askc (pc (x, y)) = 0 := askc_rat (hx.mono (by omega)) (hy.mono (by omega))
  rw [e] at ka
  have ka : ∀ h, byVal (callW gp) h fid.zf0y [.agg (msc q.ms), pa x y] = some (.int .i64 0) := ka
  have kt := fun h => k_lat (h := h) hq (hx.mono (by omega)) (hy.mono (by omega))
  have r6 : readCells (ptc (pc (x, y))) (some 6) = some (pa x y) := Eq.trans rfl rfl
  have str : ∀ v, opStore H 3 (.rp 2 0) (ra v) = some (H.set 2 (some (rcl v))) := fun v => st_set3 rfl h2 hz
  rw [zf0m.l0_eq]
  cases ha : atI q.ps q.ts x y q.ts.length 0 with
  | none =>
    rw [ha] at kt
    have l1 : opBin .lss (.int .i64 (atT q.ps q.ts x y none)) (.int .i64 0) = some (.bool true) := rfl
    have g := live_set_self (cs := rcl 0) h2
    simp (disch := first | exact dD | fail) only [Wd, W2d, W3d, Nat.reduceAdd, Nat.reduceMul, Nat.reduceSub, fa, lk, h0, h1, ms_rc, r6, ka, neqF, kt, l1, of0, str, g, rcl_rd]
    exact fzv
  | some i =>
    rw [ha] at kt
    obtain ⟨_, hi, _, _⟩ := atI_some ha
    have hi : i < q.ts.length := by omega
    have e := tc_at hi
    have s := fun f cs => sidxN (sz := 3) (f := f) (cs := cs) hi
    have rd : ∀ T : List AV, readCells (.int .i64 (tat q.ts i).1 :: .int .i64 (tat q.ts i).2.1 :: .int .i64 (tat q.ts i).2.2 :: T) (some 3) = some (.agg (tc (tat q.ts i))) := fun T => Eq.trans rfl rfl
    have st1 := st_app3 (h := H) (z := [.int .i64 0, .int .i64 0, .int .i64 0]) (v := tc (tat q.ts i)) (n := 3) rfl ⟨rfl, rfl⟩
    have st := fun (h : Heap) (w : Rat) => st_app3 (h := h) (z := [.bool false, .str ⟨#[]⟩, .str ⟨#[]⟩]) (v := rcl w) (n := 3) rfl ⟨rfl, rfl⟩
    have l1 : opBin .lss (.int .i64 (i : Int)) (.int .i64 0) = some (.bool false) := lssF (by omega)
    have kt : ∀ h, byVal (callW gp) h fid.locate_at [.agg (msc q.ms), pa x y] = some (.tup [.int .i64 (i : Int), .int .i64 (atW q.ps q.ts x y (some i))]) := kt
    have a0' : ∀ id o, opAidx 1 3 (.rp id o) (.int .i64 0) = some (.rp id (o + 0)) := fun id o => aixR (i := 0) (by omega)
    have a1' : ∀ id o, opAidx 1 3 (.rp id o) (.int .i64 1) = some (.rp id (o + 1)) := fun id o => aixR (i := 1) (by omega)
    have a2' : ∀ id o, opAidx 1 3 (.rp id o) (.int .i64 2) = some (.rp id (o + 2)) := fun id o => aixR (i := 2) (by omega)
    have g0 := fun X => live_app_old (x := X) h0
    have hlt := live_lt h2
    obtain ⟨⟨⟨a0, a1⟩, ⟨b0, b1⟩, ⟨c0, c1⟩⟩, hA⟩ := hq.tr i hi
    have hzp := hq.zp
    have g := lval_l1 (f := f) hq hx hy hi hu hus (H := H ++ [some (tc (tat q.ts i))] ++ [some (rcl (areaT q.ps (tat q.ts i)))] ++ [some (rcl 0)]) (tid := H.length) (wid := (H ++ [some (tc (tat q.ts i))]).length) (sid := (H ++ [some (tc (tat q.ts i))] ++ [some (rcl (areaT q.ps (tat q.ts i)))]).length)
      (live_app_old (live_app_old (live_app_old h0))) (live_app_old (live_app_old (live_app_old h1))) (live_app_old (live_app_old live_app_self)) (live_app_old live_app_self) live_app_self (by simp only [List.length_append, List.length_cons, List.length_nil]; omega) (by simp only [List.length_append, List.length_cons, List.length_nil]; omega) (by simp only [List.length_append, List.length_cons, List.length_nil]; omega) (by simp only [List.length_append, List.length_cons, List.length_nil]; omega) (by simp only [List.length_append, List.length_cons, List.length_nil]; omega) (live_app_old (live_app_old (live_app_old h2))) hz
    have aT : areaT q.ps (tat q.ts i) = area (ipx q.ps (tat q.ts i).1) (ipy q.ps (tat q.ts i).1) (ipx q.ps (tat q.ts i).2.1) (ipy q.ps (tat q.ts i).2.1) (ipx q.ps (tat q.ts i).2.2) (ipy q.ps (tat q.ts i).2.2) := rfl
    rw [aT] at g
    generalize valR q us x y (some i) = RR at *
    generalize hT : tat q.ts i = t at *
    have ea := pcs_at (ps := q.ps) (i := t.1.toNat) (by omega)
    have eb := pcs_at (ps := q.ps) (i := t.2.1.toNat) (by omega)
    have ec := pcs_at (ps := q.ps) (i := t.2.2.toNat) (by omega)
    have za := hzp.x (i := t.1.toNat) (by omega)
    have zb := hzp.x (i := t.2.1.toNat) (by omega)
    have zc := hzp.x (i := t.2.2.toNat) (by omega)
    have kc := fun h => k_carea (h := h) (za.1.mono (by omega)) (za.2.mono (by omega)) (zb.1.mono (by omega)) (zb.2.mono (by omega)) (zc.1.mono (by omega)) (zc.2.mono (by omega))
    have kc : ∀ h, byVal (callW gp) h fid.zf1b _ = some (.tup [ra (area (ipx q.ps t.1) (ipy q.ps t.1) (ipx q.ps t.2.1) (ipy q.ps t.2.1) (ipx q.ps t.2.2) (ipy q.ps t.2.2)), .int .i64 0]) := kc
    have sa := sidx_is (sz := 6) (n := q.ps.length) (f := false) (cs := pcs q.ps) (k := .i64) (z := t.1) a0 a1
    have sb := sidx_is (sz := 6) (n := q.ps.length) (f := false) (cs := pcs q.ps) (k := .i64) (z := t.2.1) b0 b1
    have sc := sidx_is (sz := 6) (n := q.ps.length) (f := false) (cs := pcs q.ps) (k := .i64) (z := t.2.2) c0 c1
    generalize area (ipx q.ps t.1) (ipy q.ps t.1) (ipx q.ps t.2.1) (ipy q.ps t.2.1) (ipx q.ps t.2.2) (ipy q.ps t.2.2) = W at *
    simp (disch := first | exact dD | fail) only [Wd, W2d, W3d, Nat.reduceAdd, Nat.reduceMul, Nat.reduceSub, fa, lk, h0, g0, h1, ms_rc, r6, ka, neqF, kt, l1, mq_0, mq_1, s, e, rd, st1, a0', a1', a2', tc_0, tc_1, tc_2, live_app_self, sa, sb, sc, ea, eb, ec, kc, st, of0]
    exact g
theorem lval_l0 (hus : UsZ us 300) (hn : us.length ≤ 1000) {f : Bool} {y3 y5 y6 : AV} {RR : Option AV} : ∀ (m i : Nat) (H : Heap), i + m = us.length → (∀ H', H.length ≤ H'.length → (∀ id, id < H.length → live H' id = live H id) → zf0m.l0 (.is us.length f (rcs us)) y3 y5 y6 (.is us.length f (rcs us)) (.int .i64 (us.length : Int)) (.int .i64 (us.length : Int)) H' = RR) →
    zf0m.l0 (.is us.length f (rcs us)) y3 y5 y6 (.is us.length f (rcs us)) (.int .i64 (us.length : Int)) (.int .i64 (i : Int)) H = RR := by
  intro m
  induction m with
  | zero =>
    intro i H him hR
    obtain rfl : i = us.length := by omega
    exact hR H (Nat.le_refl _) fun _ _ => rfl
  | succ m ih =>
    intro i H him hR
    have hi : i < us.length := by omega
    have e := rcs_at (us := us) (i := (i : Int)) (by simpa using hi)
    rw [show ((i : Int)).toNat = i from rfl] at e
    have zu := hus.x (i := (i : Int)) (by simpa using hi)
    have s := fun f cs => sidxN (sz := 3) (f := f) (cs := cs) hi
    have lk : opBin .lss (.int .i64 (i : Int)) (.int .i64 (us.length : Int)) = some (.bool true) := lssT (by omega)
    generalize uat us (i : Int) = v at *
    have st := st_app3 (h := H) (z := [.bool false, .str ⟨#[]⟩, .str ⟨#[]⟩]) (v := rcl v) (n := 3) rfl ⟨rfl, rfl⟩
    have kk := fun h => k_rcheck (h := h) (zu.mono (by omega))
    have g := ih (i + 1) (H ++ [some (rcl v)]) (by omega) fun H' h1 h2 => hR H' (by simp at h1; omega) fun id hid => by
      rw [h2 id (by simp; omega), live_app_ne hid]
    rw [zf0m.l0_eq]
    simp (disch := first | exact dD | fail) only [Wd, W2d, W3d, Nat.reduceAdd, Nat.reduceMul, Nat.reduceSub, lk, s, e, st, rcl_rd, live_app_self, kk, neqF]
    exact g
end
end Go.Proofs.YtojfiboeghonoaaGreat.Am
