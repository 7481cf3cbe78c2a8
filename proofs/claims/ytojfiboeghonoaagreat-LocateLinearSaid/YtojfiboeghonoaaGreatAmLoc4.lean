import Derived.Test.YtojfiboeghonoaaGreatAmLoc3
/- Where points lie in a mesh: the way from a triangle to a point. -/
set_option linter.unusedVariables false
set_option maxRecDepth 10000
set_option linter.unusedSimpArgs false
namespace Go.Proofs.YtojfiboeghonoaaGreat.Am
open Go

def sE (ps : List (Rat × Rat)) (e : Int × Int) (x y : Rat) : Int := rsgn (area (ipx ps e.1) (ipy ps e.1) (ipx ps e.2) (ipy ps e.2) x y)
def overI (ps : List (Rat × Rat)) (ts : List Tr) (i : Nat) (x y : Rat) : Option Nat :=
  if sE ps (edI ts i 0) x y < 0 then some 0 else if sE ps (edI ts i 1) x y < 0 then some 1 else if sE ps (edI ts i 2) x y < 0 then some 2 else none
def wkI (q : Mq) (x y : Rat) : Nat → Int → List Int → Option (List Int)
  | 0, t, w => if t < 0 then some (w ++ [-1]) else none
  | m + 1, t, w => if t < 0 then some (w ++ [-1]) else match overI q.ps q.ts t.toNat x y with
    | none => some (w ++ [t])
    | some k => wkI q x y m (acr q.ts t.toNat k) (w ++ [t])
def wkV : Option (List Int) → AV
  | some l => .tup [.is l.length false (ints l), .int .i64 0]
  | none => .tup [.is 0 false [], .int .i64 7]
theorem acr_in {ts : List Tr} {i k : Nat} : acr ts i k < 0 ∨ InR ts.length (acr ts i k) := by
  unfold acr
  cases hf : findI ts (edI ts i k).2 (edI ts i k).1 ts.length 0 with
  | none => left; show (-1 : Int) < 0; omega
  | some r =>
    right
    obtain ⟨_, h2, _, _⟩ := findI_some hf
    show 0 ≤ (r.1 : Int) ∧ (r.1 : Int) < (ts.length : Int)
    omega
theorem idx_tc {t : Tr} {k : Nat} (hk : k < 3) : opIdx 1 3 none (.agg (tc t)) (.int .i64 (k : Int)) = some (.int .i64 (co t k)) := by
  rcases (by omega : k = 0 ∨ k = 1 ∨ k = 2) with rfl | rfl | rfl <;> rfl
theorem aixP {n k : Nat} {cs : List AV} (h : k < n) : opAidx 1 n (.ip cs) (.int .i64 (k : Int)) = some (.ip (cs.drop k)) := by
  have h1 : (0 : Int) ≤ (k : Int) := by omega
  have h2 : (k : Int) < (n : Int) := by omega
  simp [opAidx, h1, h2, h]
theorem co_at {ts : List Tr} {i k : Nat} (hi : i < ts.length) (hk : k < 3) : readCells (List.drop k (List.drop (i * 3) (ts.flatMap tc))) none = some (.int .i64 (co (tat ts i) k)) := by
  rw [tc_at hi]
  rcases (by omega : k = 0 ∨ k = 1 ∨ k = 2) with rfl | rfl | rfl <;> rfl
theorem nb_rd {q : Mq} {i k : Nat} (hi : i < q.ts.length) (hk : k < 3) : readCells (List.drop k (List.drop (i * 3) (ints (nbL q.ts (3 * q.ts.length))))) none = some (.int .i64 (acr q.ts i k)) := by
  rw [List.drop_drop, nb_at (f := false) hi hk]; rfl
section
variable {q : Mq} {i : Nat} {x y : Rat}
theorem in_co (hq : q.ok) (hi : i < q.ts.length) {k : Nat} (hk : k < 3) : InR q.ps.length (co (tat q.ts i) k) := by
  obtain ⟨⟨a, b, c⟩, _⟩ := hq.tr i hi
  rcases (by omega : k = 0 ∨ k = 1 ∨ k = 2) with rfl | rfl | rfl <;> assumption
theorem wk_step (hq : q.ok) (hx : Rz x 100) (hy : Rz y 100) (hi : i < q.ts.length) {k : Nat} (hk : k < 3) {H : Heap} {w : AV} (h0 : live H 0 = some (msc q.ms)) (h1 : live H 1 = some (ptc (pc (x, y)))) :
    zf0g.l1 (.int .i64 (i : Int)) (.rp 0 0) (.rp 1 0) (.is q.ts.length false (ints (nbL q.ts (3 * q.ts.length)))) w (.agg (tc (tat q.ts i))) (.int .i64 (k : Int)) H =
    if sE q.ps (edI q.ts i k) x y < 0 then zf0g.l0 (.int .i64 (acr q.ts i k)) (.rp 0 0) (.rp 1 0) (.is q.ts.length false (ints (nbL q.ts (3 * q.ts.length)))) w H else zf0g.l1 (.int .i64 (i : Int)) (.rp 0 0) (.rp 1 0) (.is q.ts.length false (ints (nbL q.ts (3 * q.ts.length)))) w (.agg (tc (tat q.ts i))) (.int .i64 ((k + 1 : Nat) : Int)) H := by
  have fa : ∀ k id off, opFaddr k (.rp id off) = some (.rp id (off + k)) := fun _ _ _ => rfl
  have n1 := hq.n1
  have n2 := hq.n2
  have hz := hq.zp
  have lk : opBin .lss (.int .i64 (k : Int)) (.int .i64 3) = some (.bool true) := lssT (by omega)
  have s := fun f cs => sidxN (sz := 3) (f := f) (cs := cs) hi
  have ic := idx_tc (t := tat q.ts i) hk
  have ap := fun cs => aixP (n := 3) (cs := cs) (k := (k + 1) % 3) (by omega)
  have ap2 := fun cs => aixP (n := 3) (cs := cs) hk
  have ca := co_at hi (k := (k + 1) % 3) (by omega)
  have nr := nb_rd hi hk
  have ia := in_co hq hi hk
  have ib := in_co hq hi (k := (k + 1) % 3) (by omega)
  have r6 : readCells (ptc (pc (x, y))) (some 6) = some (pa x y) := Eq.trans rfl rfl
  have sk : sE q.ps (edI q.ts i k) x y = rsgn (area (ipx q.ps (co (tat q.ts i) k)) (ipy q.ps (co (tat q.ts i) k)) (ipx q.ps (co (tat q.ts i) ((k + 1) % 3))) (ipy q.ps (co (tat q.ts i) ((k + 1) % 3))) x y) := rfl
  rw [sk]
  generalize co (tat q.ts i) k = a at *
  generalize co (tat q.ts i) ((k + 1) % 3) = b at *
  obtain ⟨a0, a1⟩ := ia
  obtain ⟨b0, b1⟩ := ib
  have ea := pcs_at (ps := q.ps) (i := a.toNat) (by omega)
  have eb := pcs_at (ps := q.ps) (i := b.toNat) (by omega)
  have za := hz.x (i := a.toNat) (by omega)
  have zb := hz.x (i := b.toNat) (by omega)
  have ko := fun h => k_orient (h := h) (za.1.mono (by omega)) (za.2.mono (by omega)) (zb.1.mono (by omega)) (zb.2.mono (by omega)) hx hy
  have sa := sidx_is (sz := 6) (n := q.ps.length) (f := false) (cs := pcs q.ps) (k := .i64) (z := a) a0 a1
  have sb := sidx_is (sz := 6) (n := q.ps.length) (f := false) (cs := pcs q.ps) (k := .i64) (z := b) b0 b1
  have ko : ∀ h, byVal (callW gp) h fid.zf14 _ = some (.tup [.int .i64 (rsgn (area (ipx q.ps a) (ipy q.ps a) (ipx q.ps b) (ipy q.ps b) x y)), .int .i64 0]) := ko
  rw [zf0g.l1_eq]
  by_cases hs : rsgn (area (ipx q.ps a) (ipy q.ps a) (ipx q.ps b) (ipy q.ps b) x y) < 0
  · rw [if_pos hs]
    simp (disch := first | exact dD | fail) only [Wd, W2d, W3d, Nat.reduceAdd, Nat.reduceMul, Nat.reduceSub, fa, lk, ic, h0, h1, mq_1, mq_0, rm3, s, ap, ap2, ca, nr, sa, sb, ea, eb, r6, ko, lssT hs]
  · rw [if_neg hs]
    simp (disch := first | exact dD | fail) only [Wd, W2d, W3d, Nat.reduceAdd, Nat.reduceMul, Nat.reduceSub, fa, lk, ic, h0, h1, mq_1, mq_0, rm3, s, ap, ap2, ca, nr, sa, sb, ea, eb, r6, ko, lssF hs]
theorem wk_end {q : Mq} {t w m p nb : AV} {i : Nat} {H : Heap} {l : List Int} (hr : RowI H w l) : zf0g.l1 t m p nb w (.agg (tc (tat q.ts i))) (.int .i64 ((3 : Nat) : Int)) H = some (.tup [.is l.length false (ints l), .int .i64 0]) := by
  have lk : opBin .lss (.int .i64 ((3 : Nat) : Int)) (.int .i64 3) = some (.bool false) := rfl
  rw [zf0g.l1_eq]
  simp (disch := first | exact dD | fail) only [Wd, W2d, W3d, Nat.reduceAdd, Nat.reduceMul, Nat.reduceSub, lk]
  exact fz2i hr
theorem eqlD {x y : Int} (h : x = y) : opBin .eql (.int .i64 x) (.int .i64 y) = some (.bool true) := by rw [eqlTF, decide_eq_true h]
theorem eqlN {x y : Int} (h : x ≠ y) : opBin .eql (.int .i64 x) (.int .i64 y) = some (.bool false) := by rw [eqlTF, decide_eq_false h]
set_option maxHeartbeats 4000000 in
theorem wk_l0 (hq : q.ok) (hx : Rz x 100) (hy : Rz y 100) : ∀ (m : Nat) (t : Int) (H : Heap) (w : AV) (l : List Int), l.length + m = q.ts.length → (t < 0 ∨ InR q.ts.length t) → RowI H w l → live H 0 = some (msc q.ms) → live H 1 = some (ptc (pc (x, y))) → FarI w 0 → FarI w 1 →
    zf0g.l0 (.int .i64 t) (.rp 0 0) (.rp 1 0) (.is q.ts.length false (ints (nbL q.ts (3 * q.ts.length)))) w H = some (wkV (wkI q x y m t l)) := by
  have fa : ∀ k id off, opFaddr k (.rp id off) = some (.rp id (off + k)) := fun _ _ _ => rfl
  have n2 := hq.n2
  intro m
  induction m with
  | zero =>
    intro t H w l hlm ht hr h0 h1 f0 f1
    have hl := hr.len
    have bs := bsl1 (z := (-1 : Int))
    rw [zf0g.l0_eq]
    unfold wkI
    rcases ht with ht | ⟨t0, t1⟩
    · rw [if_pos ht]
      obtain ⟨w', H', g1, g2, g3, g4⟩ := hr.app (z := (-1 : Int)) (by omega)
      simp (disch := first | exact dD | fail) only [Wd, W2d, W3d, Nat.reduceAdd, Nat.reduceMul, Nat.reduceSub, geqF (show ¬ (0 : Int) ≤ t by omega), bs, g1]
      exact fz2i g2
    · rw [if_neg (by omega)]
      simp (disch := first | exact dD | fail) only [Wd, W2d, W3d, Nat.reduceAdd, Nat.reduceMul, Nat.reduceSub, geqT t0, hl, fa, h0, mq_1, eqlD (show (l.length : Int) = (q.ts.length : Int) by omega)]
      exact isZ
  | succ m ih =>
    intro t H w l hlm ht hr h0 h1 f0 f1
    have hl := hr.len
    rw [zf0g.l0_eq]
    unfold wkI
    rcases ht with ht | ⟨t0, t1⟩
    · rw [if_pos ht]
      have bs := bsl1 (z := (-1 : Int))
      obtain ⟨w', H', g1, g2, g3, g4⟩ := hr.app (z := (-1 : Int)) (by omega)
      simp (disch := first | exact dD | fail) only [Wd, W2d, W3d, Nat.reduceAdd, Nat.reduceMul, Nat.reduceSub, geqF (show ¬ (0 : Int) ≤ t by omega), bs, g1]
      exact fz2i g2
    · rw [if_neg (by omega)]
      obtain ⟨i, rfl⟩ := Int.eq_ofNat_of_zero_le t0
      have hi : i < q.ts.length := by omega
      have bs := bsl1 (z := (i : Int))
      obtain ⟨w', H', g1, g2, g3, g4⟩ := hr.app (z := (i : Int)) (by omega)
      obtain ⟨k0, k0'⟩ := g4 0 (live_lt h0) f0
      obtain ⟨k1, k1'⟩ := g4 1 (live_lt h1) f1
      rw [h0] at k0
      rw [h1] at k1
      have e := tc_at hi
      have s := fun f cs => sidxN (sz := 3) (f := f) (cs := cs) hi
      have rd : ∀ T : List AV, readCells (.int .i64 (tat q.ts i).1 :: .int .i64 (tat q.ts i).2.1 :: .int .i64 (tat q.ts i).2.2 :: T) (some 3) = some (.agg (tc (tat q.ts i))) := fun T => Eq.trans rfl rfl
      simp (disch := first | exact dD | fail) only [Wd, W2d, W3d, Nat.reduceAdd, Nat.reduceMul, Nat.reduceSub, geqT t0, hl, fa, h0, k0, mq_1, eqlN (show (l.length : Int) ≠ (q.ts.length : Int) by omega), bs, g1, s, e, rd]
      have s0 := wk_step hq hx hy hi (k := 0) (by omega) (w := w') k0 k1
      have s1 := wk_step hq hx hy hi (k := 1) (by omega) (w := w') k0 k1
      have s2 := wk_step hq hx hy hi (k := 2) (by omega) (w := w') k0 k1
      have hn : ∀ k, zf0g.l0 (.int .i64 (acr q.ts i k)) (.rp 0 0) (.rp 1 0) (.is q.ts.length false (ints (nbL q.ts (3 * q.ts.length)))) w' H' = some (wkV (wkI q x y m (acr q.ts i k) (l ++ [(i : Int)]))) := fun k =>
        ih (acr q.ts i k) H' w' (l ++ [(i : Int)]) (by simp; omega) acr_in g2 k0 k1 k0' k1'
      unfold overI
      refine Eq.trans s0 ?_
      by_cases c0 : sE q.ps (edI q.ts i 0) x y < 0
      · rw [if_pos c0, if_pos c0]; exact hn 0
      rw [if_neg c0, if_neg c0]
      refine Eq.trans s1 ?_
      by_cases c1 : sE q.ps (edI q.ts i 1) x y < 0
      · rw [if_pos c1, if_pos c1]; exact hn 1
      rw [if_neg c1, if_neg c1]
      refine Eq.trans s2 ?_
      by_cases c2 : sE q.ps (edI q.ts i 2) x y < 0
      · rw [if_pos c2, if_pos c2]; exact hn 2
      rw [if_neg c2, if_neg c2]
      exact wk_end g2
theorem imm_L3' {a b c : AV} (ha : Imm 12 a) (hb : Imm 12 b) (hc : Imm 12 c) : ∀ x ∈ [a, b, c], Imm 12 x := imm_three ha hb hc
variable {h : Heap} {t : Int}
theorem k_lWalk (hq : q.ok) (ht : InR q.ts.length t) (hx : Rz x 100) (hy : Rz y 100) : byVal (callW gp) h fid.zf0g [.agg (msc q.ms), .int .i64 t, pa x y] = some (wkV (wkI q x y q.ts.length t [])) := byVal_imm (imm_L3' imm_ms imm_i imm_pa) (by
  have fa : ∀ k id off, opFaddr k (.rp id off) = some (.rp id (off + k)) := fun _ _ _ => rfl
  have kc := fun h => k_check (h := h) hq
  have ka := fun h => k_lasked (h := h) hq (p := pc (x, y)) (pcm_ok [(x, y)] _ (by simp))
  have e : askc (pc (x, y)) = 0 := askc_rat hx hy
  rw [e] at ka
  have ka : ∀ h, byVal (callW gp) h fid.zf0y [.agg (msc q.ms), pa x y] = some (.int .i64 0) := ka
  have r6 : readCells [.bool (decide (x.num < 0)), str (nb x.num.natAbs), str (nb x.den), .bool (decide (y.num < 0)), str (nb y.num.natAbs), str (nb y.den)] (some 6) = some (pa x y) := Eq.trans rfl rfl
  have kn := fun h => k_nb (h := h) hq
  have g := wk_l0 hq hx hy q.ts.length t [some (msc q.ms), some (ptc (pc (x, y)))] (.is 0 true []) [] (by simp) (.inr ht) rowI_nil rfl rfl farI_nil farI_nil
  obtain ⟨t0, t1⟩ := ht
  rw [zf0g.eq]
  unfold zf0g.f
  simp (disch := first | exact dD | fail) only [Wd, W2d, W3d, Nat.reduceAdd, Nat.reduceMul, Nat.reduceSub, fa, ms_rc, kc, neqF, mq_1, lssF (show ¬ t < 0 by omega), geqF (show ¬ (q.ts.length : Int) ≤ t by omega), r6, ka, kn]
  exact g)
end
end Go.Proofs.YtojfiboeghonoaaGreat.Am
