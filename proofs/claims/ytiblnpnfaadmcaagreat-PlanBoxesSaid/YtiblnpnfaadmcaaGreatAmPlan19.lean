import Derived.Test.YtiblnpnfaadmcaaGreatAmPlan18
/- Section 09: boxes. -/
set_option linter.unusedVariables false
set_option maxRecDepth 10000
set_option linter.unusedSimpArgs false
namespace Go.Proofs.YtiblnpnfaadmcaaGreat.Am
open Go

def loS (a x : Rat) : Rat := if x < a then x else a
def hiS (a x : Rat) : Rat := if a < x then x else a
theorem cmpQ_gtD {p q : Rat} : decide (0 < cmpQ p q) = decide (q < p) := by
  unfold cmpQ
  by_cases h1 : p < q
  · rw [if_pos h1]
    have : ¬ q < p := by grind
    simp [this]
  · rw [if_neg h1]
    by_cases h2 : q < p <;> simp [h2]
theorem pcl_0 {x y : Rat} : readCells (pcl x y) (some 3) = some (ra x) := Eq.trans rfl rfl
theorem pcl_3 {x y : Rat} : readCells ((pcl x y).drop 3) (some 3) = some (ra y) := Eq.trans rfl rfl
section
variable {H : Heap} {id : Nat} {x y q lx ly hx hy : Rat}
theorem ld6a (h : live H id = some (pcl x y)) : opLoad H (some 3) (.rp id 0) = some (ra x) := by rw [ld_rp, h]; exact pcl_0
theorem ld6b (h : live H id = some (pcl x y)) : opLoad H (some 3) (.rp id 3) = some (ra y) := by rw [ld_rp, h]; exact pcl_3
theorem ld6 (h : live H id = some (pcl x y)) : opLoad H (some 6) (.rp id 0) = some (pa x y) := by rw [ld_rp, h]; exact pcl_rd
theorem st6a (h : live H id = some (pcl x y)) : opStore H 3 (.rp id 0) (ra q) = some (H.set id (some (pcl q y))) := by
  rw [st_rp, h, Option.bind_some]
  exact (stc_agg (n := 3) (new := rcl q) ⟨rfl, rfl⟩ (by simp)).trans rfl
theorem st6b (h : live H id = some (pcl x y)) : opStore H 3 (.rp id 3) (ra q) = some (H.set id (some (pcl x q))) := by
  rw [st_rp, h, Option.bind_some]
  exact (stc_agg (n := 3) (new := rcl q) ⟨rfl, rfl⟩ (by simp)).trans rfl
theorem st6w (h : live H id = some (pcl x y)) {p r : Rat} : opStore H 6 (.rp id 0) (pa p r) = some (H.set id (some (pcl p r))) := by
  rw [st_rp, h, Option.bind_some]
  exact (stc_agg (n := 6) (new := pcl p r) ⟨rfl, rfl⟩ (by simp)).trans rfl
theorem set_same6 (h : live H id = some (pcl x y)) : opStore H 6 (.rp id 0) (pa x y) = some H := by rw [st6w h, set_same9 h]
structure BX (H : Heap) (a b : Nat) (lx ly hx hy : Rat) : Prop where
  l : live H a = some (pcl lx ly)
  h : live H b = some (pcl hx hy)
  n : a ≠ b
  z1 : Rz lx 40
  z2 : Rz ly 40
  z3 : Rz hx 40
  z4 : Rz hy 40
  k : ∀ j, j < 2 → j ≠ a → j ≠ b → live H j = some z6
theorem BX.app {a b : Nat} (e : BX H a b lx ly hx hy) (c : Option (List AV)) : BX (H ++ [c]) a b lx ly hx hy := ⟨live_app_old e.l, live_app_old e.h, e.n, e.z1, e.z2, e.z3, e.z4, fun j h1 h2 h3 => live_app_old (e.k j h1 h2 h3)⟩
theorem BX.sl {a b : Nat} (e : BX H a b lx ly hx hy) {p r : Rat} (h1 : Rz p 40) (h2 : Rz r 40) : BX (H.set a (some (pcl p r))) a b p r hx hy :=
  ⟨by rw [live_set (live_lt e.l), if_pos rfl], by rw [live_set (live_lt e.l), if_neg (Ne.symm e.n)]; exact e.h, e.n, h1, h2, e.z3, e.z4, fun j g1 g2 g3 => by rw [live_set (live_lt e.l), if_neg g2]; exact e.k j g1 g2 g3⟩
theorem BX.sh {a b : Nat} (e : BX H a b lx ly hx hy) {p r : Rat} (h1 : Rz p 40) (h2 : Rz r 40) : BX (H.set b (some (pcl p r))) a b lx ly p r :=
  ⟨by rw [live_set (live_lt e.h), if_neg e.n]; exact e.l, by rw [live_set (live_lt e.h), if_pos rfl], e.n, e.z1, e.z2, h1, h2, fun j g1 g2 g3 => by rw [live_set (live_lt e.h), if_neg g3]; exact e.k j g1 g2 g3⟩
theorem loS_p (h : q < x) : loS x q = q := if_pos h
theorem loS_n (h : ¬ q < x) : loS x q = x := if_neg h
theorem hiS_p (h : x < q) : hiS x q = q := if_pos h
theorem hiS_n (h : ¬ x < q) : hiS x q = x := if_neg h
theorem lssQ (h : x < y) : opBin .lss (.int .i64 (cmpQ x y)) (.int .i64 0) = some (.bool true) := by rw [bin_lss, cmpQ_dec, decide_eq_true h]
theorem lssN (h : ¬ x < y) : opBin .lss (.int .i64 (cmpQ x y)) (.int .i64 0) = some (.bool false) := by rw [bin_lss, cmpQ_dec, decide_eq_false h]
theorem gtrQ (h : y < x) : opBin .gtr (.int .i64 (cmpQ x y)) (.int .i64 0) = some (.bool true) := by rw [bin_gtr, cmpQ_gtD, decide_eq_true h]
theorem gtrN (h : ¬ y < x) : opBin .gtr (.int .i64 (cmpQ x y)) (.int .i64 0) = some (.bool false) := by rw [bin_gtr, cmpQ_gtD, decide_eq_false h]
end

section
variable {R : Option AV} {a b c i : Nat} {x y : Rat} {y31 y32 : AV}
set_option maxHeartbeats 4000000 in
theorem pb_j2 {H : Heap} {lx ly hx hy : Rat} (hi : i ≤ 1000) (e : BX H a b lx ly hx hy) (hl : live H c = some (pcl x y)) (na : c ≠ a) (nb : c ≠ b) (hc : Rz y 40) (hR : ∀ H', BX H' a b lx ly hx (hiS hy y) → zf0b.l3 (.rp a 0) (.rp b 0) y31 y32 (.int .i64 ((i + 1 : Nat) : Int)) H' = R) : zf0b.j2 (.rp a 0) (.rp b 0) (.rp c 0) y31 y32 (.int .i64 (i : Int)) H = R := by
  have k1 := fun h => k_pless (h := h) (e.z4.mono (m := 8000) (by omega)) (hc.mono (m := 8000) (by omega))
  have l1 := ld6b hl
  have l2 := ld6b e.h
  have s1 := st6b (q := y) e.h
  have f1 : ∀ d, opFaddr 3 (.rp d 0) = some (.rp d 3) := fun _ => rfl
  have ad : opBin .add (.int .i64 (i : Int)) (.int .i64 1) = some (.int .i64 ((i + 1 : Nat) : Int)) := i_add1 (by omega)
  unfold zf0b.j2
  by_cases q : hy < y
  · rw [hiS_p q] at hR
    rw [decide_eq_true q] at k1
    simp only [bind_s, f1, l1, l2, k1, cond_t, s1, ad]
    exact hR _ (e.sh e.z3 hc) 
  · rw [hiS_n q] at hR
    rw [decide_eq_false q] at k1
    simp only [bind_s, f1, l1, l2, k1, cond_f, ad]
    exact hR _ e 
set_option maxHeartbeats 4000000 in
theorem pb_j1 {H : Heap} {lx ly hx hy : Rat} (hi : i ≤ 1000) (e : BX H a b lx ly hx hy) (hl : live H c = some (pcl x y)) (na : c ≠ a) (nb : c ≠ b) (hc : Rz x 40) (hR : ∀ H', BX H' a b lx ly (hiS hx x) hy → live H' c = some (pcl x y) → zf0b.j2 (.rp a 0) (.rp b 0) (.rp c 0) y31 y32 (.int .i64 (i : Int)) H' = R) : zf0b.j1 (.rp a 0) (.rp b 0) (.rp c 0) y31 y32 (.int .i64 (i : Int)) H = R := by
  have k1 := fun h => k_pless (h := h) (e.z3.mono (m := 8000) (by omega)) (hc.mono (m := 8000) (by omega))
  have l1 := ld6a hl
  have l2 := ld6a e.h
  have s1 := st6a (q := x) e.h
  have f1 : ∀ d, opFaddr 0 (.rp d 0) = some (.rp d 0) := fun _ => rfl
  have ad : opBin .add (.int .i64 (i : Int)) (.int .i64 1) = some (.int .i64 ((i + 1 : Nat) : Int)) := i_add1 (by omega)
  unfold zf0b.j1
  by_cases q : hx < x
  · rw [hiS_p q] at hR
    rw [decide_eq_true q] at k1
    simp only [bind_s, f1, l1, l2, k1, cond_t, s1]
    exact hR _ (e.sh hc e.z4) (by rw [live_set (live_lt e.h), if_neg nb]; exact hl)
  · rw [hiS_n q] at hR
    rw [decide_eq_false q] at k1
    simp only [bind_s, f1, l1, l2, k1, cond_f]
    exact hR _ e hl
set_option maxHeartbeats 4000000 in
theorem pb_j0 {H : Heap} {lx ly hx hy : Rat} (hi : i ≤ 1000) (e : BX H a b lx ly hx hy) (hl : live H c = some (pcl x y)) (na : c ≠ a) (nb : c ≠ b) (hc : Rz y 40) (hR : ∀ H', BX H' a b lx (loS ly y) hx hy → live H' c = some (pcl x y) → zf0b.j1 (.rp a 0) (.rp b 0) (.rp c 0) y31 y32 (.int .i64 (i : Int)) H' = R) : zf0b.j0 (.rp a 0) (.rp b 0) (.rp c 0) y31 y32 (.int .i64 (i : Int)) H = R := by
  have k1 := fun h => k_pless (h := h) (hc.mono (m := 8000) (by omega)) (e.z2.mono (m := 8000) (by omega))
  have l1 := ld6b hl
  have l2 := ld6b e.l
  have s1 := st6b (q := y) e.l
  have f1 : ∀ d, opFaddr 3 (.rp d 0) = some (.rp d 3) := fun _ => rfl
  have ad : opBin .add (.int .i64 (i : Int)) (.int .i64 1) = some (.int .i64 ((i + 1 : Nat) : Int)) := i_add1 (by omega)
  unfold zf0b.j0
  by_cases q : y < ly
  · rw [loS_p q] at hR
    rw [decide_eq_true q] at k1
    simp only [bind_s, f1, l1, l2, k1, cond_t, s1]
    exact hR _ (e.sl e.z1 hc) (by rw [live_set (live_lt e.l), if_neg na]; exact hl)
  · rw [loS_n q] at hR
    rw [decide_eq_false q] at k1
    simp only [bind_s, f1, l1, l2, k1, cond_f]
    exact hR _ e hl
end
section
variable {R : Option AV} {a b c i : Nat} {x y : Rat} {y0 y2 y3 : AV}
set_option maxHeartbeats 4000000 in
theorem rb_j2 {H : Heap} {lx ly hx hy : Rat} (hi : i ≤ 1000) (e : BX H a b lx ly hx hy) (hl : live H c = some (pcl x y)) (na : c ≠ a) (nb : c ≠ b) (hc : Rz y 40) (hR : ∀ H', BX H' a b lx ly hx (hiS hy y) → zf0d.l0 y0 y2 y3 (.rp a 0) (.rp b 0) (.int .i64 ((i + 1 : Nat) : Int)) H' = R) : zf0d.j2 y0 y2 y3 (.rp a 0) (.rp b 0) (.int .i64 (i : Int)) (.rp c 0) H = R := by
  have k1 := fun h => k_3order (h := h) (hc.mono (m := 20000) (by omega)) (e.z4.mono (m := 20000) (by omega))
  have l1 := ld6b hl
  have l2 := ld6b e.h
  have s1 := st6b (q := y) e.h
  have f1 : ∀ d, opFaddr 3 (.rp d 0) = some (.rp d 3) := fun _ => rfl
  have ad : opBin .add (.int .i64 (i : Int)) (.int .i64 1) = some (.int .i64 ((i + 1 : Nat) : Int)) := i_add1 (by omega)
  unfold zf0d.j2
  by_cases q : hy < y
  · rw [hiS_p q] at hR
    have o1 := gtrQ q
    simp only [bind_s, f1, l1, l2, k1, o1, cond_t, s1, ad]
    exact hR _ (e.sh e.z3 hc) 
  · rw [hiS_n q] at hR
    have o1 := gtrN q
    simp only [bind_s, f1, l1, l2, k1, o1, cond_f, ad]
    exact hR _ e 
set_option maxHeartbeats 4000000 in
theorem rb_j1 {H : Heap} {lx ly hx hy : Rat} (hi : i ≤ 1000) (e : BX H a b lx ly hx hy) (hl : live H c = some (pcl x y)) (na : c ≠ a) (nb : c ≠ b) (hc : Rz x 40) (hR : ∀ H', BX H' a b lx ly (hiS hx x) hy → live H' c = some (pcl x y) → zf0d.j2 y0 y2 y3 (.rp a 0) (.rp b 0) (.int .i64 (i : Int)) (.rp c 0) H' = R) : zf0d.j1 y0 y2 y3 (.rp a 0) (.rp b 0) (.int .i64 (i : Int)) (.rp c 0) H = R := by
  have k1 := fun h => k_3order (h := h) (hc.mono (m := 20000) (by omega)) (e.z3.mono (m := 20000) (by omega))
  have l1 := ld6a hl
  have l2 := ld6a e.h
  have s1 := st6a (q := x) e.h
  have f1 : ∀ d, opFaddr 0 (.rp d 0) = some (.rp d 0) := fun _ => rfl
  have ad : opBin .add (.int .i64 (i : Int)) (.int .i64 1) = some (.int .i64 ((i + 1 : Nat) : Int)) := i_add1 (by omega)
  unfold zf0d.j1
  by_cases q : hx < x
  · rw [hiS_p q] at hR
    have o1 := gtrQ q
    simp only [bind_s, f1, l1, l2, k1, o1, cond_t, s1]
    exact hR _ (e.sh hc e.z4) (by rw [live_set (live_lt e.h), if_neg nb]; exact hl)
  · rw [hiS_n q] at hR
    have o1 := gtrN q
    simp only [bind_s, f1, l1, l2, k1, o1, cond_f]
    exact hR _ e hl
set_option maxHeartbeats 4000000 in
theorem rb_j0 {H : Heap} {lx ly hx hy : Rat} (hi : i ≤ 1000) (e : BX H a b lx ly hx hy) (hl : live H c = some (pcl x y)) (na : c ≠ a) (nb : c ≠ b) (hc : Rz y 40) (hR : ∀ H', BX H' a b lx (loS ly y) hx hy → live H' c = some (pcl x y) → zf0d.j1 y0 y2 y3 (.rp a 0) (.rp b 0) (.int .i64 (i : Int)) (.rp c 0) H' = R) : zf0d.j0 y0 y2 y3 (.rp a 0) (.rp b 0) (.int .i64 (i : Int)) (.rp c 0) H = R := by
  have k1 := fun h => k_3order (h := h) (hc.mono (m := 20000) (by omega)) (e.z2.mono (m := 20000) (by omega))
  have l1 := ld6b hl
  have l2 := ld6b e.l
  have s1 := st6b (q := y) e.l
  have f1 : ∀ d, opFaddr 3 (.rp d 0) = some (.rp d 3) := fun _ => rfl
  have ad : opBin .add (.int .i64 (i : Int)) (.int .i64 1) = some (.int .i64 ((i + 1 : Nat) : Int)) := i_add1 (by omega)
  unfold zf0d.j0
  by_cases q : y < ly
  · rw [loS_p q] at hR
    have o1 := lssQ q
    simp only [bind_s, f1, l1, l2, k1, o1, cond_t, s1]
    exact hR _ (e.sl e.z1 hc) (by rw [live_set (live_lt e.l), if_neg na]; exact hl)
  · rw [loS_n q] at hR
    have o1 := lssN q
    simp only [bind_s, f1, l1, l2, k1, o1, cond_f]
    exact hR _ e hl
end
end Go.Proofs.YtiblnpnfaadmcaaGreat.Am
