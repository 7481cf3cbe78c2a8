import Derived.Test.YtiblnpnfaadmcaaGreatAmPlan19
/- Section 09: Box, both texts. -/
set_option linter.unusedVariables false
set_option maxRecDepth 10000
set_option linter.unusedSimpArgs false
namespace Go.Proofs.YtiblnpnfaadmcaaGreat.Am
open Go

def fo (op : Rat → Rat → Rat) (g : Nat → Rat) (i n : Nat) (a : Rat) : Rat := ((List.range' i n).map g).foldl op a
theorem fo_0 {op : Rat → Rat → Rat} {g : Nat → Rat} {i : Nat} {a : Rat} : fo op g i 0 a = a := rfl
theorem fo_s {op : Rat → Rat → Rat} {g : Nat → Rat} {i n : Nat} {a : Rat} : fo op g i (n + 1) a = fo op g (i + 1) n (op a (g i)) := rfl
theorem loS_z {a x : Rat} {n : Nat} (h1 : Rz a n) (h2 : Rz x n) : Rz (loS a x) n := by unfold loS; split <;> assumption
theorem hiS_z {a x : Rat} {n : Nat} (h1 : Rz a n) (h2 : Rz x n) : Rz (hiS a x) n := by unfold hiS; split <;> assumption
theorem loS_self {a : Rat} : loS a a = a := by unfold loS; split <;> rfl
theorem hiS_self {a : Rat} : hiS a a = a := by unfold hiS; split <;> rfl
theorem loF_le {g : Nat → Rat} : ∀ (n i : Nat) (a : Rat), fo loS g i n a ≤ a ∧ ∀ k, i ≤ k → k < i + n → fo loS g i n a ≤ g k
  | 0, i, a => ⟨Rat.le_refl, fun k h1 h2 => absurd h2 (by omega)⟩
  | n + 1, i, a => by
    rw [fo_s]
    obtain ⟨h1, h2⟩ := loF_le (g := g) n (i + 1) (loS a (g i))
    have h3 : loS a (g i) ≤ a ∧ loS a (g i) ≤ g i := by unfold loS; split <;> grind
    refine ⟨by grind, fun k hk hk' => ?_⟩
    by_cases e : k = i
    · subst e; grind
    · exact h2 k (by omega) (by omega)
theorem hiF_le {g : Nat → Rat} : ∀ (n i : Nat) (a : Rat), a ≤ fo hiS g i n a ∧ ∀ k, i ≤ k → k < i + n → g k ≤ fo hiS g i n a
  | 0, i, a => ⟨Rat.le_refl, fun k h1 h2 => absurd h2 (by omega)⟩
  | n + 1, i, a => by
    rw [fo_s]
    obtain ⟨h1, h2⟩ := hiF_le (g := g) n (i + 1) (hiS a (g i))
    have h3 : a ≤ hiS a (g i) ∧ g i ≤ hiS a (g i) := by unfold hiS; split <;> grind
    refine ⟨by grind, fun k hk hk' => ?_⟩
    by_cases e : k = i
    · subst e; grind
    · exact h2 k (by omega) (by omega)
theorem fo_z {op : Rat → Rat → Rat} {m : Nat} (hop : ∀ a x, Rz a m → Rz x m → Rz (op a x) m) {g : Nat → Rat} : ∀ (n i : Nat) (a : Rat), Rz a m → (∀ k, i ≤ k → k < i + n → Rz (g k) m) → Rz (fo op g i n a) m
  | 0, i, a, h, _ => h
  | n + 1, i, a, h, hg => by
    rw [fo_s]
    exact fo_z hop n (i + 1) _ (hop _ _ h (hg i (by omega) (by omega))) (fun k h1 h2 => hg k (by omega) (by omega))
section
variable {ps : List (Rat × Rat)} {f : Bool} {R : Option AV} {a b : Nat}
theorem st_new6 {H : Heap} {x y : Rat} : opStore (H ++ [some [.bool false, .str ⟨#[]⟩, .str ⟨#[]⟩, .bool false, .str ⟨#[]⟩, .str ⟨#[]⟩]]) 6 (.rp H.length 0) (pa x y) = some (H ++ [some (pcl x y)]) := st_app3 (h := H) (z := z6) (v := pcl x y) (n := 6) rfl ⟨rfl, rfl⟩
set_option maxHeartbeats 8000000 in
theorem pbox_l3 (hz : PZ ps) (hn : ps.length ≤ 1000) : ∀ (n i : Nat) (H : Heap) (lx ly hx hy : Rat), i + n = ps.length → BX H a b lx ly hx hy →
    zf0b.l3 (.rp a 0) (.rp b 0) (.is ps.length f (pcs ps)) (.int .i64 (ps.length : Int)) (.int .i64 (i : Int)) H = some (.tup [pa (fo loS (px ps) i n lx) (fo loS (py ps) i n ly), pa (fo hiS (px ps) i n hx) (fo hiS (py ps) i n hy), .int .i64 0]) := by
  intro n
  induction n with
  | zero =>
    intro i H lx ly hx hy hi e
    have lk : opBin .lss (.int .i64 (i : Int)) (.int .i64 (ps.length : Int)) = some (.bool false) := lssF (by omega)
    have l1 := ld6 e.l
    have l2 := ld6 e.h
    have s1 := set_same6 e.l
    have s2 := set_same6 e.h
    rw [zf0b.l3_eq]
    simp only [bind_s, lk, cond_f, l1, l2, s1, s2, same_cons, same_one, ifP_T, fo_0]
    rfl
  | succ n ih =>
    intro i H lx ly hx hy hi e
    have hi' : i < ps.length := by omega
    have lk : opBin .lss (.int .i64 (i : Int)) (.int .i64 (ps.length : Int)) = some (.bool true) := lssT (by omega)
    have s1 := sidxN (sz := 6) (f := f) (cs := pcs ps) hi'
    have r1 := pcs_rd hi'
    have lip : ∀ h cs, opLoad h (some 6) (.ip cs) = readCells cs (some 6) := fun _ _ => rfl
    obtain ⟨z1, z2⟩ := hz i hi'
    simp only [fo_s]
    have ih := fun H => ih (i + 1) H
    generalize px ps i = x at *
    generalize py ps i = y at *
    have st := st_new6 (H := H) (x := x) (y := y)
    have e' := e.app (some (pcl x y))
    have hl : live (H ++ [some (pcl x y)]) H.length = some (pcl x y) := live_app_self
    have na : H.length ≠ a := fun h => by have := live_lt e.l; omega
    have nb : H.length ≠ b := fun h => by have := live_lt e.h; omega
    rw [zf0b.l3_eq]
    simp only [bind_s, lk, cond_t, s1, lip, r1, st]
    clear st
    generalize H ++ [some (pcl x y)] = H1 at *
    generalize H.length = c at *
    have k1 := fun h => k_pless (h := h) (z1.mono (m := 8000) (by omega)) (e'.z1.mono (m := 8000) (by omega))
    have f0 : ∀ d, opFaddr 0 (.rp d 0) = some (.rp d 0) := fun _ => rfl
    have l1 := ld6a hl
    have l2 := ld6a e'.l
    have w1 := st6a (q := x) e'.l
    have fin : ∀ H2, BX H2 a b (loS lx x) ly hx hy → live H2 c = some (pcl x y) → zf0b.j0 (.rp a 0) (.rp b 0) (.rp c 0) (.is ps.length f (pcs ps)) (.int .i64 (ps.length : Int)) (.int .i64 (i : Int)) H2 = some (.tup [pa (fo loS (px ps) (i + 1) n (loS lx x)) (fo loS (py ps) (i + 1) n (loS ly y)), pa (fo hiS (px ps) (i + 1) n (hiS hx x)) (fo hiS (py ps) (i + 1) n (hiS hy y)), .int .i64 0]) := fun H2 e2 h2 =>
      pb_j0 (by omega) e2 h2 na nb z2 fun H3 e3 h3 => pb_j1 (by omega) e3 h3 na nb z1 fun H4 e4 h4 => pb_j2 (by omega) e4 h4 na nb z2 fun H5 e5 => ih H5 _ _ _ _ (by omega) e5
    by_cases q : x < lx
    · rw [loS_p q] at fin ⊢
      rw [decide_eq_true q] at k1
      simp only [bind_s, cond_t, f0, l1, l2, k1, w1]
      exact fin _ (e'.sl z1 e'.z2) (by rw [live_set (live_lt e'.l), if_neg na]; exact hl)
    · rw [loS_n q] at fin ⊢
      rw [decide_eq_false q] at k1
      simp only [bind_s, f0, l1, l2, k1, cond_f]
      exact fin _ e' hl
set_option maxHeartbeats 8000000 in
theorem rbox_l0 (hz : PZ ps) (hn : ps.length ≤ 1000) : ∀ (n i : Nat) (H : Heap) (lx ly hx hy : Rat), i + n = ps.length → BX H a b lx ly hx hy → 2 ≤ a → 2 ≤ b →
    zf0d.l0 (.is ps.length f (pcs ps)) (.rp 0 0) (.rp 1 0) (.rp a 0) (.rp b 0) (.int .i64 (i : Int)) H = some (.tup [pa (fo loS (px ps) i n lx) (fo loS (py ps) i n ly), pa (fo hiS (px ps) i n hx) (fo hiS (py ps) i n hy)]) := by
  intro n
  induction n with
  | zero =>
    intro i H lx ly hx hy hi e ha hb
    have lk : opBin .lss (.int .i64 (i : Int)) (.int .i64 (ps.length : Int)) = some (.bool false) := lssF (by omega)
    have stz : ∀ (H : Heap) id p r, live H id = some z6 → opStore H 6 (.rp id 0) (pa p r) = some (H.set id (some (pcl p r))) := fun H id p r h => by
      rw [st_rp, h, Option.bind_some]
      exact (stc_agg (n := 6) (new := pcl p r) ⟨rfl, rfl⟩ (by decide)).trans rfl
    have h0 := e.k 0 (by decide) (by omega) (by omega)
    have h1 := e.k 1 (by decide) (by omega) (by omega)
    have l1 := ld6 e.l
    have l2 := ld6 e.h
    have s1 := stz H 0 lx ly h0
    have g1 : live (H.set 0 (some (pcl lx ly))) 1 = some z6 := by rw [live_set (live_lt h0), if_neg (by decide)]; exact h1
    have g2 : live (H.set 0 (some (pcl lx ly))) b = some (pcl hx hy) := by rw [live_set (live_lt h0), if_neg (by omega)]; exact e.h
    have l3 := ld6 g2
    have s2 := stz _ 1 hx hy g1
    have m0 : live ((H.set 0 (some (pcl lx ly))).set 1 (some (pcl hx hy))) 0 = some (pcl lx ly) := by rw [live_set (live_lt g1), if_neg (by decide), live_set (live_lt h0), if_pos rfl]
    have m1 : live ((H.set 0 (some (pcl lx ly))).set 1 (some (pcl hx hy))) 1 = some (pcl hx hy) := by rw [live_set (live_lt g1), if_pos rfl]
    have l4 := ld6 m0
    have l5 := ld6 m1
    rw [zf0d.l0_eq]
    simp only [bind_s, len_is, lk, cond_f, l1, l2, s1, l3, s2, same_cons, same_one, ifP_T, l4, l5, fo_0]
    rfl
  | succ n ih =>
    intro i H lx ly hx hy hi e ha hb
    have hi' : i < ps.length := by omega
    have lk : opBin .lss (.int .i64 (i : Int)) (.int .i64 (ps.length : Int)) = some (.bool true) := lssT (by omega)
    have s1 := sidxN (sz := 6) (f := f) (cs := pcs ps) hi'
    have r1 := pcs_rd hi'
    have lip : ∀ h cs, opLoad h (some 6) (.ip cs) = readCells cs (some 6) := fun _ _ => rfl
    obtain ⟨z1, z2⟩ := hz i hi'
    simp only [fo_s]
    have ih := fun H => ih (i + 1) H
    generalize px ps i = x at *
    generalize py ps i = y at *
    have st := st_new6 (H := H) (x := x) (y := y)
    have e' := e.app (some (pcl x y))
    have hl : live (H ++ [some (pcl x y)]) H.length = some (pcl x y) := live_app_self
    have na : H.length ≠ a := fun h => by have := live_lt e.l; omega
    have nb : H.length ≠ b := fun h => by have := live_lt e.h; omega
    have ad : opBin .add (.int .i64 (i : Int)) (.int .i64 1) = some (.int .i64 ((i + 1 : Nat) : Int)) := i_add1 (by omega)
    rw [zf0d.l0_eq]
    simp only [bind_s, len_is, lk, cond_t, s1, lip, r1, st]
    clear st
    generalize H ++ [some (pcl x y)] = H1 at *
    generalize H.length = c at *
    have k1 := fun h => k_3order (h := h) (z1.mono (m := 20000) (by omega)) (e'.z1.mono (m := 20000) (by omega))
    have f0 : ∀ d, opFaddr 0 (.rp d 0) = some (.rp d 0) := fun _ => rfl
    have l1 := ld6a hl
    have l2 := ld6a e'.l
    have w1 := st6a (q := x) e'.l
    have fin : ∀ H2, BX H2 a b (loS lx x) ly hx hy → live H2 c = some (pcl x y) → zf0d.j0 (.is ps.length f (pcs ps)) (.rp 0 0) (.rp 1 0) (.rp a 0) (.rp b 0) (.int .i64 (i : Int)) (.rp c 0) H2 = some (.tup [pa (fo loS (px ps) (i + 1) n (loS lx x)) (fo loS (py ps) (i + 1) n (loS ly y)), pa (fo hiS (px ps) (i + 1) n (hiS hx x)) (fo hiS (py ps) (i + 1) n (hiS hy y))]) := fun H2 e2 h2 =>
      rb_j0 (by omega) e2 h2 na nb z2 fun H3 e3 h3 => rb_j1 (by omega) e3 h3 na nb z1 fun H4 e4 h4 => rb_j2 (by omega) e4 h4 na nb z2 fun H5 e5 => ih H5 _ _ _ _ (by omega) e5 ha hb
    by_cases q : x < lx
    · rw [loS_p q] at fin ⊢
      have o1 := lssQ q
      simp only [bind_s, cond_t, f0, l1, l2, k1, o1, w1]
      exact fin _ (e'.sl z1 e'.z2) (by rw [live_set (live_lt e'.l), if_neg na]; exact hl)
    · rw [loS_n q] at fin ⊢
      have o1 := lssN q
      simp only [bind_s, f0, l1, l2, k1, o1, cond_f]
      exact fin _ e' hl
end
end Go.Proofs.YtiblnpnfaadmcaaGreat.Am
