import Derived.Test.YtojfiboeghonoaaGreatAmLaws12b
/- Section 12: what a function is at a point. -/
set_option linter.unusedVariables false
set_option maxRecDepth 10000
set_option linter.unusedSimpArgs false
namespace Go.Proofs.YtojfiboeghonoaaGreat.Am
open Go

section
variable {q : Mq} {x y : Rat} {us : List Rat} {h : Heap}
theorem eqa_rr {r : Rat} : opEqa false [.b, .s, .s] (ra r) (ra r) = some (.bool true) := by rw [eqa_r, decide_eq_true rfl]
theorem eqa_zz : opEqa false [.b, .s, .s] (.agg z3) (.agg z3) = some (.bool true) := by kernel_rfl
theorem beq_ss {b : Bool} : opBeq false (.bool b) (.bool b) = some (.bool true) := by cases b <;> rfl
theorem z3_rd : readCells z3 (some 3) = some (.agg z3) := Eq.trans rfl rfl
theorem vals_j2E {H : Heap} {y1 y3 y5 : AV} {id : Nat} {e : Int} (he : e ≠ 0) (hv : live H id = some z3) : zf06.j2 y1 y3 y5 (.rp id 0) (.bool false) (.int .i64 e) (.int .i64 e) H = some (.bool true) := by
  have kl := fun h => c_live12 (h := h)
  have nq := neqT he
  unfold zf06.j2
  simp (disch := first | exact dD | fail) only [Wd, W2d, W3d, Nat.reduceAdd, Nat.reduceMul, Nat.reduceSub, nq, eqlTF, decide_true, notF, hv, z3_rd, eqa_zz, kl]
set_option maxHeartbeats 8000000 in
theorem vals_j2 (hq : q.ok) (hx : Rz x 40) (hy : Rz y 40) (hu : us.length = q.ps.length) (hus : UsZ us 300) {H : Heap} {id : Nat} {b : Bool} {v : Rat}
    (h0 : live H 0 = some (msc q.ms)) (h1 : live H 1 = some (ptc (pc (x, y)))) (hv : live H id = some (rcl v)) (hr : valR2 q us x y (atI q.ps q.ts x y q.ts.length 0) = .tup [ra v, .bool b]) :
    zf06.j2 (.is us.length false (rcs us)) (.rp 0 0) (.rp 1 0) (.rp id 0) (.bool b) (.int .i64 0) (.int .i64 0) H = some (.bool true) := by
  have kl := fun h => c_live12 (h := h)
  have kr := fun h => k_rValue (h := h) hq hx hy hu hus
  rw [hr] at kr
  have r6 : readCells (ptc (pc (x, y))) (some 6) = some (pa x y) := Eq.trans rfl rfl
  have st := st_app3 (h := H) (z := [.bool false, .str ⟨#[]⟩, .str ⟨#[]⟩]) (v := rcl v) (n := 3) rfl ⟨rfl, rfl⟩
  have g := live_app_old (x := some (rcl v)) hv
  unfold zf06.j2
  simp (disch := first | exact dD | fail) only [Wd, W2d, W3d, Nat.reduceAdd, Nat.reduceMul, Nat.reduceSub, neqF, h0, h1, ms_rc, r6, kr, st, eqlTF, decide_true, g, rcl_rd, live_app_self, eqa_rr, beq_ss, beq_self_eq_true, kl]
theorem vals_l0 {xs : List RT} {y3 y5 : AV} {H : Heap} (hn : xs.length ≤ 1000) {f : Bool} : ∀ (m i : Nat), i + m = xs.length →
    (∀ t ∈ xs.take i, sh1 t) → ((∀ t ∈ xs, sh1 t) → zf06.l0 (.is xs.length f (xs.flatMap rtc)) y3 y5 (.int .i64 (xs.length : Int)) H = some (.bool true)) →
    zf06.l0 (.is xs.length f (xs.flatMap rtc)) y3 y5 (.int .i64 (i : Int)) H = some (.bool true) := by
  have kl := fun h => c_live12 (h := h)
  intro m
  induction m with
  | zero =>
    intro i him hs hR
    obtain rfl : i = xs.length := by omega
    rw [List.take_length] at hs
    exact hR hs
  | succ m ih =>
    intro i him hs hR
    have hi : i < xs.length := by omega
    have e : (xs.flatMap rtc).drop (i * 3) = .bool xs[i].s :: str xs[i].m :: str xs[i].d :: (xs.drop (i + 1)).flatMap rtc := by
      rw [drop_flatMap rtc_len, List.drop_eq_getElem_cons hi, List.flatMap_cons]; rfl
    have s := fun f cs => sidxN (sz := 3) (f := f) (cs := cs) hi
    have lk : opBin .lss (.int .i64 (i : Int)) (.int .i64 (xs.length : Int)) = some (.bool true) := lssT (by omega)
    have kk : ∀ h, byVal (callW gp) h fid.zf0b [.agg [.bool xs[i].s, str xs[i].m, str xs[i].d]] = some (.bool (decide (sh1 xs[i]))) := fun h => c_short12
    rw [zf06.l0_eq]
    by_cases hh : sh1 xs[i]
    · rw [decide_eq_true hh] at kk
      have g := ih (i + 1) (by omega) (fun t ht => by
        rw [List.take_succ_eq_append_getElem hi] at ht
        rcases List.mem_append.1 ht with ht | ht
        · exact hs t ht
        · rw [List.mem_singleton] at ht; subst ht; exact hh) hR
      simp (disch := first | exact dD | fail) only [Wd, W2d, W3d, Nat.reduceAdd, Nat.reduceMul, Nat.reduceSub, lk, s, e, kk, notT]
      exact g
    · rw [decide_eq_false hh] at kk
      simp (disch := first | exact dD | fail) only [Wd, W2d, W3d, Nat.reduceAdd, Nat.reduceMul, Nat.reduceSub, lk, s, e, kk, notF, kl]
end
section
set_option maxHeartbeats 16000000 in
theorem locateValues_cv (m : Ms) (xs : List RT) (p : PT) (hm : ∀ p ∈ m.pts, p.ok) (hxs : ∀ t ∈ xs, t.ok) (hp : p.ok) : cv gp fid.zf06 [.agg (msc m), .is xs.length false (xs.flatMap rtc), .agg (ptc p)] = some (.bool true) := by
  have fa : ∀ k id off, opFaddr k (.rp id off) = some (.rp id (off + k)) := fun _ _ _ => rfl
  have kl := fun h => c_live12 (h := h)
  have r6 : readCells (ptc p) (some 6) = some (.agg (ptc p)) := Eq.trans rfl rfl
  obtain ⟨b, ks, hb⟩ := k_small12 hm
  have k1 := fun h => c_short12 (h := h) (t := p.1)
  have k2 := fun h => c_short12 (h := h) (t := p.2)
  have r1 : readCells (ptc p) (some 3) = some (.agg (rtc p.1)) := Eq.trans rfl rfl
  have r2 : readCells (List.drop 3 (ptc p)) (some 3) = some (.agg (rtc p.2)) := Eq.trans rfl rfl
  have bs := bslp (p := p)
  have ka := fun h => asked1 (h := h) hp
  rw [zf06.eq]
  unfold zf06.f
  cases b with
  | false => simp (disch := first | exact dD | fail) only [Wd, W2d, W3d, Nat.reduceAdd, Nat.reduceMul, Nat.reduceSub, ms_rc, ks, notT, notF, kl]
  | true =>
    obtain ⟨q, hq, rfl⟩ := hb rfl
    have n1 := hq.n1
    by_cases hl : 40 < xs.length
    · have c1 : opBin .gtr (.int .i64 (xs.length : Int)) (.int .i64 40) = some (.bool true) := by rw [gtrD, decide_eq_true (by omega)]
      simp (disch := first | exact dD | fail) only [Wd, W2d, W3d, Nat.reduceAdd, Nat.reduceMul, Nat.reduceSub, ms_rc, ks, notT, notF, c1, kl]
    have c1 : opBin .gtr (.int .i64 (xs.length : Int)) (.int .i64 40) = some (.bool false) := by rw [gtrD, decide_eq_false (by omega)]
    by_cases h1 : sh1 p.1
    rotate_left
    · rw [decide_eq_false h1] at k1
      simp (disch := first | exact dD | fail) only [Wd, W2d, W3d, Nat.reduceAdd, Nat.reduceMul, Nat.reduceSub, ms_rc, ks, notT, notF, c1, fa, r1, k1, kl]
    by_cases h2 : sh1 p.2
    rotate_left
    · rw [decide_eq_true h1] at k1
      rw [decide_eq_false h2] at k2
      simp (disch := first | exact dD | fail) only [Wd, W2d, W3d, Nat.reduceAdd, Nat.reduceMul, Nat.reduceSub, ms_rc, ks, notT, notF, c1, fa, r1, r2, k1, k2, kl]
    rw [decide_eq_true h1] at k1
    rw [decide_eq_true h2] at k2
    simp (disch := first | exact dD | fail) only [Wd, W2d, W3d, Nat.reduceAdd, Nat.reduceMul, Nat.reduceSub, ms_rc, ks, notT, notF, c1, fa, r1, r2, k1, k2, kl]
    refine vals_l0 (by omega) xs.length 0 (by omega) (by simp) fun hsh => ?_
    have lk : opBin .lss (.int .i64 (xs.length : Int)) (.int .i64 (xs.length : Int)) = some (.bool false) := lssF (by omega)
    have stz := st_app3 (h := [some (msc q.ms), some (ptc p)]) (z := [.bool false, .str ⟨#[]⟩, .str ⟨#[]⟩]) (v := z3) (n := 3) rfl ⟨rfl, rfl⟩
    rw [zf06.l0_eq]
    by_cases hlen : xs.length = q.ps.length
    rotate_left
    · have kv := fun h => k_lValueA (h := h) hq (p := p) hlen (by omega)
      have nq : opBin .neq (.int .i64 (xs.length : Int)) (.int .i64 (q.ps.length : Int)) = some (.bool true) := by rw [bin_neq]; exact congrArg (fun b => some (AV.bool b)) (decide_eq_true (by omega))
      have e1 : opBin .eql (.int .i64 1) (.int .i64 0) = some (.bool false) := rfl
      simp (disch := first | exact dD | fail) only [Wd, W2d, W3d, Nat.reduceAdd, Nat.reduceMul, Nat.reduceSub, lk, ms_rc, r6, kv, fa, mq_0, nq]
      unfold zf06.j0
      simp (disch := first | exact dD | fail) only [Wd, W2d, W3d, Nat.reduceAdd, Nat.reduceMul, Nat.reduceSub, e1]
      unfold zf06.j1
      simp (disch := first | exact dD | fail) only [Wd, W2d, W3d, Nat.reduceAdd, Nat.reduceMul, Nat.reduceSub, e1]
      exact vals_j2E (by decide) rfl
    have nq : opBin .neq (.int .i64 (xs.length : Int)) (.int .i64 (q.ps.length : Int)) = some (.bool false) := by rw [bin_neq]; exact congrArg (fun b => some (AV.bool b)) (decide_eq_false (by omega))
    have e0 : opBin .eql (.int .i64 0) (.int .i64 0) = some (.bool true) := rfl
    have kn := fun h => k_rNum (h := h) hxs (by omega)
    by_cases hne : firstE (xs.map RT.chk) = 0
    rotate_left
    · have kv := fun h => k_lValueN (h := h) hq (p := p) hxs hlen hne
      have e1 : opBin .eql (.int .i64 (firstE (xs.map RT.chk))) (.int .i64 0) = some (.bool false) := eqlN hne
      simp (disch := first | exact dD | fail) only [Wd, W2d, W3d, Nat.reduceAdd, Nat.reduceMul, Nat.reduceSub, lk, ms_rc, r6, kv, fa, mq_0, nq]
      unfold zf06.j0
      simp (disch := first | exact dD | fail) only [Wd, W2d, W3d, Nat.reduceAdd, Nat.reduceMul, Nat.reduceSub, e0, kn]
      unfold zf06.j1
      simp (disch := first | exact dD | fail) only [Wd, W2d, W3d, Nat.reduceAdd, Nat.reduceMul, Nat.reduceSub, e1]
      exact vals_j2E hne rfl
    rw [hne] at kn
    obtain ⟨us, rfl, hus⟩ := rts_rat40 hxs hsh hne
    rw [List.length_map] at hlen
    have hus3 : UsZ us 300 := fun r hr => (hus r hr).mono (by omega)
    have el : (us.map rt).length = us.length := List.length_map ..
    rw [el] at *
    simp only [List.length_map] at kn
    by_cases ha : askc p = 0
    rotate_left
    · have kv := fun h => k_lValueP (h := h) hq hp hlen hus3 ha
      unfold rcs at kv
      simp (disch := first | exact dD | fail) only [Wd, W2d, W3d, Nat.reduceAdd, Nat.reduceMul, Nat.reduceSub, lk, ms_rc, r6, kv, fa, mq_0, nq]
      unfold zf06.j0
      simp (disch := first | exact dD | fail) only [Wd, W2d, W3d, Nat.reduceAdd, Nat.reduceMul, Nat.reduceSub, e0, kn]
      unfold zf06.j1
      simp (disch := first | exact dD | fail) only [Wd, W2d, W3d, Nat.reduceAdd, Nat.reduceMul, Nat.reduceSub, e0, bs, r6, ka]
      exact vals_j2E ha rfl
    obtain ⟨⟨x, y⟩, rfl, hx, hy⟩ := pt_rat40 hp ⟨h1, h2⟩ ha
    rw [ha] at ka
    have kv : ∀ h, byVal (callW gp) h fid.zf0m [.agg (msc q.ms), .is us.length false ((us.map rt).flatMap rtc), .agg (ptc (pc (x, y)))] = some (valR q us x y (atI q.ps q.ts x y q.ts.length 0)) := fun h => k_lValue (h := h) hq hx hy hlen hus3
    have fin : ∀ v b, valR q us x y (atI q.ps q.ts x y q.ts.length 0) = .tup [ra v, .bool b, .int .i64 0] → valR2 q us x y (atI q.ps q.ts x y q.ts.length 0) = .tup [ra v, .bool b] → zf06.l0 (.is us.length false ((us.map rt).flatMap rtc)) (.rp 0 0) (.rp 1 0) (.int .i64 (us.length : Int)) [some (msc q.ms), some (ptc (pc (x, y)))] = some (.bool true) := fun v b g1 g2 => by
      rw [g1] at kv
      have st := st_app3 (h := [some (msc q.ms), some (ptc (pc (x, y)))]) (z := [.bool false, .str ⟨#[]⟩, .str ⟨#[]⟩]) (v := rcl v) (n := 3) rfl ⟨rfl, rfl⟩
      rw [zf06.l0_eq]
      simp (disch := first | exact dD | fail) only [Wd, W2d, W3d, Nat.reduceAdd, Nat.reduceMul, Nat.reduceSub, lk, ms_rc, r6, kv, fa, mq_0, nq]
      unfold zf06.j0
      simp (disch := first | exact dD | fail) only [Wd, W2d, W3d, Nat.reduceAdd, Nat.reduceMul, Nat.reduceSub, e0, kn]
      unfold zf06.j1
      simp (disch := first | exact dD | fail) only [Wd, W2d, W3d, Nat.reduceAdd, Nat.reduceMul, Nat.reduceSub, e0, bs, r6, ka]
      exact vals_j2 hq hx hy hlen hus3 rfl rfl rfl g2
    rw [← zf06.l0_eq]
    cases hat : atI q.ps q.ts x y q.ts.length 0 with
    | none => rw [hat] at fin; exact fin 0 false rfl rfl
    | some i => rw [hat] at fin; exact fin (valQ q us i x y) true rfl rfl
end
end Go.Proofs.YtojfiboeghonoaaGreat.Am
