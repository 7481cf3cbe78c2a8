import Derived.Test.YtojfiboeghonoaaGreatAmLoc4
/- Where points lie in a mesh: the way, the document's answer. -/
set_option linter.unusedVariables false
set_option maxRecDepth 10000
set_option linter.unusedSimpArgs false
namespace Go.Proofs.YtojfiboeghonoaaGreat.Am
open Go

section
variable {q : Mq} {i : Nat} {x y : Rat}
theorem rw_step (hq : q.ok) (hx : Rz x 100) (hy : Rz y 100) (hi : i < q.ts.length) {k : Nat} (hk : k < 3) {H : Heap} {w ov : AV} (h0 : live H 0 = some (msc q.ms)) (h1 : live H 1 = some (ptc (pc (x, y)))) :
    gussetref12_Walk.l1 (.int .i64 (i : Int)) (.rp 0 0) (.rp 1 0) w ov (.int .i64 (k : Int)) H =
    if sE q.ps (edI q.ts i k) x y < 0 then gussetref12_Walk.l1 (.int .i64 (i : Int)) (.rp 0 0) (.rp 1 0) w (.int .i64 (k : Int)) (.int .i64 ((k : Int) - 1)) H else gussetref12_Walk.l1 (.int .i64 (i : Int)) (.rp 0 0) (.rp 1 0) w ov (.int .i64 ((k : Int) - 1)) H := by
  have fa : ∀ k id off, opFaddr k (.rp id off) = some (.rp id (off + k)) := fun _ _ _ => rfl
  have n1 := hq.n1
  have n2 := hq.n2
  have hz := hq.zp
  have lk : opBin .geq (.int .i64 (k : Int)) (.int .i64 0) = some (.bool true) := geqT (by omega)
  have ke := fun h => k_ends (m := q.ms) (h := h) hi hk
  have ia := in_co hq hi hk
  have ib := in_co hq hi (k := (k + 1) % 3) (by omega)
  have r6 : readCells (ptc (pc (x, y))) (some 6) = some (pa x y) := Eq.trans rfl rfl
  have sk : sE q.ps (edI q.ts i k) x y = rsgn (area (ipx q.ps (co (tat q.ts i) k)) (ipy q.ps (co (tat q.ts i) k)) (ipx q.ps (co (tat q.ts i) ((k + 1) % 3))) (ipy q.ps (co (tat q.ts i) ((k + 1) % 3))) x y) := rfl
  have ke : ∀ h, byVal (callW gp) h fid.gussetref11_Ends [.agg (msc q.ms), .int .i64 (i : Int), .int .i64 (k : Int)] = some (.tup [.int .i64 (co (tat q.ts i) k), .int .i64 (co (tat q.ts i) ((k + 1) % 3))]) := ke
  rw [sk]
  generalize co (tat q.ts i) k = a at *
  generalize co (tat q.ts i) ((k + 1) % 3) = b at *
  obtain ⟨a0, a1⟩ := ia
  obtain ⟨b0, b1⟩ := ib
  have ea := pcs_at (ps := q.ps) (i := a.toNat) (by omega)
  have eb := pcs_at (ps := q.ps) (i := b.toNat) (by omega)
  have za := hz.x (i := a.toNat) (by omega)
  have zb := hz.x (i := b.toNat) (by omega)
  have ko := fun h => k_5orient (h := h) (za.1.mono (by omega)) (za.2.mono (by omega)) (zb.1.mono (by omega)) (zb.2.mono (by omega)) (hx.mono (by omega)) (hy.mono (by omega))
  have sa := sidx_is (sz := 6) (n := q.ps.length) (f := false) (cs := pcs q.ps) (k := .i64) (z := a) a0 a1
  have sb := sidx_is (sz := 6) (n := q.ps.length) (f := false) (cs := pcs q.ps) (k := .i64) (z := b) b0 b1
  have ko : ∀ h, byVal (callW gp) h fid.gussetref05_Orient _ = some (.int .i64 (rsgn (area (ipx q.ps a) (ipy q.ps a) (ipx q.ps b) (ipy q.ps b) x y))) := ko
  have sb1 : opBin .sub (.int .i64 (k : Int)) (.int .i64 1) = some (.int .i64 ((k : Int) - 1)) := by rw [int_sub (by omega) (by omega)]
  rw [gussetref12_Walk.l1_eq]
  by_cases hs : rsgn (area (ipx q.ps a) (ipy q.ps a) (ipx q.ps b) (ipy q.ps b) x y) < 0
  · rw [if_pos hs]
    simp (disch := first | exact dD | fail) only [Wd, W2d, W3d, Nat.reduceAdd, Nat.reduceMul, Nat.reduceSub, fa, lk, h0, h1, mq_0, ms_rc, ke, sa, sb, ea, eb, r6, ko, lssT hs, sb1]
  · rw [if_neg hs]
    simp (disch := first | exact dD | fail) only [Wd, W2d, W3d, Nat.reduceAdd, Nat.reduceMul, Nat.reduceSub, fa, lk, h0, h1, mq_0, ms_rc, ke, sa, sb, ea, eb, r6, ko, lssF hs, sb1]
def ovV : Option Nat → Int
  | some k => (k : Int)
  | none => -1
def rwE (a : Option AV) (f : Nat → Option AV) : Option Nat → Option AV
  | none => a
  | some k => f k
theorem rw_end (hq : q.ok) (hi : i < q.ts.length) {H : Heap} {w : AV} {l : List Int} {o : Option Nat} (ho : ∀ k, o = some k → k < 3) (hr : RowI H w l) (h0 : live H 0 = some (msc q.ms)) :
    gussetref12_Walk.l1 (.int .i64 (i : Int)) (.rp 0 0) (.rp 1 0) w (.int .i64 (ovV o)) (.int .i64 (-1)) H = rwE (some (.tup [.is l.length false (ints l), .int .i64 0])) (fun k => gussetref12_Walk.l0 (.int .i64 (acr q.ts i k)) (.rp 0 0) (.rp 1 0) w H) o := by
  have lk : opBin .geq (.int .i64 (-1)) (.int .i64 0) = some (.bool false) := rfl
  have n2 := hq.n2
  rw [gussetref12_Walk.l1_eq]
  cases o with
  | none =>
    have l1 : opBin .lss (.int .i64 (ovV none)) (.int .i64 0) = some (.bool true) := rfl
    simp (disch := first | exact dD | fail) only [Wd, W2d, W3d, Nat.reduceAdd, Nat.reduceMul, Nat.reduceSub, lk, l1]
    exact fz2i hr
  | some k =>
    have hk := ho k rfl
    have l1 : opBin .lss (.int .i64 (k : Int)) (.int .i64 0) = some (.bool false) := lssF (by omega)
    have ka := fun h => k_across (m := q.ms) (h := h) hi hk (by show q.ts.length ≤ _; omega)
    have ka : ∀ h, byVal (callW gp) h fid.gussetref11_Across [.agg (msc q.ms), .int .i64 (i : Int), .int .i64 (k : Int)] = some (.tup [.int .i64 (acr q.ts i k), .int .i64 (fB (findI q.ts (edI q.ts i k).2 (edI q.ts i k).1 q.ts.length 0))]) := ka
    unfold ovV rwE
    simp (disch := first | exact dD | fail) only [Wd, W2d, W3d, Nat.reduceAdd, Nat.reduceMul, Nat.reduceSub, lk, l1, h0, ms_rc, ka]
set_option maxHeartbeats 4000000 in
theorem rw_l0 (hq : q.ok) (hx : Rz x 100) (hy : Rz y 100) : ∀ (m : Nat) (t : Int) (H : Heap) (w : AV) (l : List Int), l.length + m = q.ts.length → (t < 0 ∨ InR q.ts.length t) → RowI H w l → live H 0 = some (msc q.ms) → live H 1 = some (ptc (pc (x, y))) → FarI w 0 → FarI w 1 →
    gussetref12_Walk.l0 (.int .i64 t) (.rp 0 0) (.rp 1 0) w H = some (wkV (wkI q x y m t l)) := by
  have fa : ∀ k id off, opFaddr k (.rp id off) = some (.rp id (off + k)) := fun _ _ _ => rfl
  have n2 := hq.n2
  intro m
  induction m with
  | zero =>
    intro t H w l hlm ht hr h0 h1 f0 f1
    have hl := hr.len
    have bs := bsl1 (z := (-1 : Int))
    rw [gussetref12_Walk.l0_eq]
    unfold wkI
    rcases ht with ht | ⟨t0, t1⟩
    · rw [if_pos ht]
      obtain ⟨w', H', g1, g2, g3, g4⟩ := hr.app (z := (-1 : Int)) (by omega)
      simp (disch := first | exact dD | fail) only [Wd, W2d, W3d, Nat.reduceAdd, Nat.reduceMul, Nat.reduceSub, lssT ht, bs, g1]
      exact fz2i g2
    · rw [if_neg (by omega)]
      simp (disch := first | exact dD | fail) only [Wd, W2d, W3d, Nat.reduceAdd, Nat.reduceMul, Nat.reduceSub, lssF (show ¬ t < 0 by omega), hl, fa, h0, mq_1, eqlD (show (l.length : Int) = (q.ts.length : Int) by omega)]
      exact isZ
  | succ m ih =>
    intro t H w l hlm ht hr h0 h1 f0 f1
    have hl := hr.len
    rw [gussetref12_Walk.l0_eq]
    unfold wkI
    rcases ht with ht | ⟨t0, t1⟩
    · rw [if_pos ht]
      have bs := bsl1 (z := (-1 : Int))
      obtain ⟨w', H', g1, g2, g3, g4⟩ := hr.app (z := (-1 : Int)) (by omega)
      simp (disch := first | exact dD | fail) only [Wd, W2d, W3d, Nat.reduceAdd, Nat.reduceMul, Nat.reduceSub, lssT ht, bs, g1]
      exact fz2i g2
    · rw [if_neg (by omega)]
      obtain ⟨i, rfl⟩ := Int.eq_ofNat_of_zero_le t0
      have hi : i < q.ts.length := by omega
      have bs := bsl1 (z := (i : Int))
      obtain ⟨w', H', g1, g2, g3, g4⟩ := hr.app (z := (i : Int)) (by omega)
      obtain ⟨k0, k0'⟩ := g4 0 (live_lt h0) f0
      obtain ⟨k1, k1'⟩ := g4 1 (live_lt h1) f1
      rw [h0] at k0
      rw [h1] at k1
      simp (disch := first | exact dD | fail) only [Wd, W2d, W3d, Nat.reduceAdd, Nat.reduceMul, Nat.reduceSub, lssF (show ¬ (i : Int) < 0 by omega), hl, fa, h0, mq_1, eqlN (show (l.length : Int) ≠ (q.ts.length : Int) by omega), bs, g1]
      have s2 := fun ov => rw_step hq hx hy hi (k := 2) (by omega) (w := w') (ov := ov) k0 k1
      have s1 := fun ov => rw_step hq hx hy hi (k := 1) (by omega) (w := w') (ov := ov) k0 k1
      have s0 := fun ov => rw_step hq hx hy hi (k := 0) (by omega) (w := w') (ov := ov) k0 k1
      have hn : ∀ k, gussetref12_Walk.l0 (.int .i64 (acr q.ts i k)) (.rp 0 0) (.rp 1 0) w' H' = some (wkV (wkI q x y m (acr q.ts i k) (l ++ [(i : Int)]))) := fun k =>
        ih (acr q.ts i k) H' w' (l ++ [(i : Int)]) (by simp; omega) acr_in g2 k0 k1 k0' k1'
      have en : gussetref12_Walk.l1 (.int .i64 (i : Int)) (.rp 0 0) (.rp 1 0) w' (.int .i64 (ovV (overI q.ps q.ts i x y))) (.int .i64 (-1)) H' = some (wkV (match overI q.ps q.ts i x y with | none => some (l ++ [(i : Int)]) | some k => wkI q x y m (acr q.ts i k) (l ++ [(i : Int)]))) := by
        rw [rw_end hq hi (fun k hk => overI_lt hk) g2 k0]
        cases overI q.ps q.ts i x y with
        | none => rfl
        | some k => exact hn k
      refine Eq.trans ?_ en
      refine Eq.trans (s2 (.int .i64 (-1))) ?_
      unfold overI
      by_cases c0 : sE q.ps (edI q.ts i 0) x y < 0 <;> by_cases c1 : sE q.ps (edI q.ts i 1) x y < 0 <;> by_cases c2 : sE q.ps (edI q.ts i 2) x y < 0
      · rw [if_pos c2, if_pos c0]
        refine Eq.trans (s1 _) ?_
        rw [if_pos c1]
        refine Eq.trans (s0 _) ?_
        rw [if_pos c0]; rfl
      · rw [if_neg c2, if_pos c0]
        refine Eq.trans (s1 _) ?_
        rw [if_pos c1]
        refine Eq.trans (s0 _) ?_
        rw [if_pos c0]; rfl
      · rw [if_pos c2, if_pos c0]
        refine Eq.trans (s1 _) ?_
        rw [if_neg c1]
        refine Eq.trans (s0 _) ?_
        rw [if_pos c0]; rfl
      · rw [if_neg c2, if_pos c0]
        refine Eq.trans (s1 _) ?_
        rw [if_neg c1]
        refine Eq.trans (s0 _) ?_
        rw [if_pos c0]; rfl
      · rw [if_pos c2, if_neg c0, if_pos c1]
        refine Eq.trans (s1 _) ?_
        rw [if_pos c1]
        refine Eq.trans (s0 _) ?_
        rw [if_neg c0]; rfl
      · rw [if_neg c2, if_neg c0, if_pos c1]
        refine Eq.trans (s1 _) ?_
        rw [if_pos c1]
        refine Eq.trans (s0 _) ?_
        rw [if_neg c0]; rfl
      · rw [if_pos c2, if_neg c0, if_neg c1, if_pos c2]
        refine Eq.trans (s1 _) ?_
        rw [if_neg c1]
        refine Eq.trans (s0 _) ?_
        rw [if_neg c0]; rfl
      · rw [if_neg c2, if_neg c0, if_neg c1, if_neg c2]
        refine Eq.trans (s1 _) ?_
        rw [if_neg c1]
        refine Eq.trans (s0 _) ?_
        rw [if_neg c0]; rfl
variable {h : Heap} {t : Int}
theorem k_rWalk (hq : q.ok) (ht : InR q.ts.length t) (hx : Rz x 100) (hy : Rz y 100) : byVal (callW gp) h fid.gussetref12_Walk [.agg (msc q.ms), .int .i64 t, pa x y] = some (wkV (wkI q x y q.ts.length t [])) := byVal_imm (imm_L3' imm_ms imm_i imm_pa) (by
  have g := rw_l0 hq hx hy q.ts.length t [some (msc q.ms), some (ptc (pc (x, y)))] (.is 0 true []) [] (by simp) (.inr ht) rowI_nil rfl rfl farI_nil farI_nil
  rw [gussetref12_Walk.eq]
  unfold gussetref12_Walk.f
  simp (disch := first | exact dD | fail) only [Wd, W2d, W3d, Nat.reduceAdd, Nat.reduceMul, Nat.reduceSub]
  exact g)
end
end Go.Proofs.YtojfiboeghonoaaGreat.Am
