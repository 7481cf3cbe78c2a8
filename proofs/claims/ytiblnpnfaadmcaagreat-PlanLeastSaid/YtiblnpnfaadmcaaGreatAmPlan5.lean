import Derived.Test.YtiblnpnfaadmcaaGreatAmPlan4
/- Section 09: the least distance. -/
set_option linter.unusedVariables false
set_option maxRecDepth 10000
set_option linter.unusedSimpArgs false
namespace Go.Proofs.YtiblnpnfaadmcaaGreat.Am
open Go

section
variable {h : Heap}
theorem pasked_l0 {xs : List PT} {f : Bool} (hb : ∀ t ∈ xs, t.ok) (hn : xs.length ≤ 1000000) : ∀ (k i : Nat) (hh : Heap), i + k = xs.length → zf0x.l0 (.is xs.length f (xs.flatMap ptc)) (.int .i64 xs.length) (.int .i64 (i : Nat)) hh = some (.int .i64 (zy5n ((xs.drop i).map askc))) := by
 intro k
 induction k with
 | zero =>
  intro i hh hik
  rw [zf0x.l0_eq]
  simp (disch := first | exact dD | fail) only [Wd, W2d, W3d, Nat.reduceAdd, Nat.reduceMul, Nat.reduceSub]
  rw [List.drop_of_length_le (by omega)]
  rfl
 | succ k ih =>
  intro i hh hik
  rw [zf0x.l0_eq]
  have hi : i < xs.length := by omega
  have ht := hb _ (List.getElem_mem hi)
  have e : (xs.flatMap ptc).drop (i * 6) = .bool xs[i].1.s :: str xs[i].1.m :: str xs[i].1.d :: .bool xs[i].2.s :: str xs[i].2.m :: str xs[i].2.d :: (xs.drop (i + 1)).flatMap ptc := by
   rw [zy4f zye8, List.drop_eq_getElem_cons hi, List.flatMap_cons]; rfl
  obtain ⟨z, hc⟩ := zy94 ht
  unfold ptc rtc at hc
  simp only [List.cons_append, List.nil_append] at hc
  rw [List.drop_eq_getElem_cons hi, List.map_cons, zy5n]
  simp (disch := first | exact dD | fail) only [Wd, W2d, W3d, Nat.reduceAdd, Nat.reduceMul, Nat.reduceSub, e, hc, zy3c]
  by_cases h0 : askc xs[i] = 0
  ·rw [if_pos h0, if_neg (by simpa using h0)]
   exact ih (i + 1) _ (by omega)
  ·rw [if_neg h0, if_pos h0]
theorem zy96 {xs : List PT} {f : Bool} (hb : ∀ t ∈ xs, t.ok) (hn : xs.length ≤ 1000000) : byVal (callW gp) h fid.zf0x [.is xs.length f (xs.flatMap ptc)] = some (.int .i64 (zy5n (xs.map askc))) := zy1o (fun c hc => (zy79 zy7o xs c hc).mono (by omega)) (by
 rw [zf0x.eq]
 unfold zf0x.f
 simp only [zy9y, zy13]
 exact pasked_l0 hb hn xs.length 0 [] (by omega))
end
theorem rd_ok {y0 y1 y4 y30 y31 y32 y33 y54 y55 y56 : AV} {id oid : Nat} (hne : id ≠ oid) : RdOk (zf0j.rd (frame 62 [(0, y0), (1, y1), (2, .junk), (3, .junk), (4, y4), (5, .junk), (6, .junk), (7, .junk), (8, .junk), (9, (.rp oid 0)), (10, .junk), (11, .junk), (12, .junk), (13, .junk), (14, .junk), (15, .junk), (16, .junk), (17, .junk), (18, .junk), (19, .junk), (20, .junk), (21, .junk), (22, .junk), (23, .junk), (24, .junk), (25, .junk), (26, .junk), (27, .junk), (28, .junk), (29, .junk), (30, y30), (31, y31), (32, y32), (33, y33), (34, .junk), (35, .junk), (36, .junk), (37, .junk), (38, .junk), (39, .junk), (40, .junk), (41, .junk), (42, .junk), (43, .junk), (44, .junk), (45, .junk), (46, .junk), (47, .junk), (48, .junk), (49, .junk), (50, .junk), (51, .junk), (52, .junk), (53, .junk), (54, y54), (55, y55), (56, y56), (57, .junk), (58, .junk), (59, .junk), (60, .junk), (61, .junk)]) id) id oid := by
 intro H st d hy ho hs hd
 have s1 := zygj (h := H) (z := [.bool false, .str ⟨#[]⟩, .str ⟨#[]⟩]) (v := rcl d) (n := 3) rfl ⟨rfl, rfl⟩
 have s1' : zydm (H ++ [some [.bool false, .str ⟨#[]⟩, .str ⟨#[]⟩]]) 3 (.rp H.length 0) (ra d) = some (H ++ [some (rcl d)]) := s1
 have y1' : hasY id (H ++ [some (rcl d)]) = true := zy6u (zya8 hy)
 have g1 : live (H ++ [some (rcl d)]) H.length = some (rcl d) := zya9
 obtain ⟨H2, c1, c2, c3, c4⟩ := zy27 (H := H ++ [some (rcl d)]) (id := oid) (zya8 ho) hd hs
 have keep : ∀ j, j ≠ oid → j < H.length → live H2 j = live H j := fun j h1 h2 => by rw [c4 j h1 (by simp; omega), zya7 h2]
 have y2 : hasY id H2 = true := zy6u (by rw [keep id hne (zyae hy)]; exact hy)
 refine ⟨H2, ?_, c2, by rw [c3]; simp; omega, keep⟩
 rw [zf0j.rd_eq]
 simp (disch := first | exact dD | fail) only [Wd, W2d, W3d, Nat.reduceAdd, Nat.reduceMul, Nat.reduceSub, s1', y1', g1, zyel, c1, y2]
 rfl
theorem mn2 {k : IntKind} {x y : Int} : opMm false [.int k x, .int k y] = some (.int k (if y < x then y else x)) := rfl
theorem mx2 {k : IntKind} {x y : Int} : opMm true [.int k x, .int k y] = some (.int k (if x < y then y else x)) := rfl
theorem fz_z {H : Heap} {z : Int} : zy5v H (.tup [.agg z3, .int .i64 z]) = some (.tup [.agg z3, .int .i64 z]) := zy6a rfl rfl
theorem bldz : opBld [.bool false, .str ⟨#[]⟩, .str ⟨#[]⟩] [] = some (.agg z3) := Eq.trans rfl rfl
theorem z3_rd : zyem z3 (some 3) = some (.agg z3) := Eq.trans rfl rfl
theorem set_same9 {H : Heap} {id : Nat} {c : List AV} (h : live H id = some c) : H.set id (some c) = H := by
 apply List.ext_getElem?
 intro j
 rw [List.getElem?_set]
 split
 ·rename_i e
  subst e
  have hlt := zyae h
  rw [if_pos hlt]
  unfold live at h
  rw [List.getElem?_eq_getElem hlt] at h ⊢
  exact congrArg some h.symm
 ·rfl
theorem st_z {H : Heap} (h : live H 0 = some z3) : zydm H 3 (.rp 0 0) (.agg z3) = some H := by
 have := zygk (H := H) (id := 0) (a := .bool false) (b := .str ⟨#[]⟩) (c := .str ⟨#[]⟩) rfl h rfl
 rw [set_same9 h] at this
 exact this
def EV (n : Nat) (s : Sg) : Prop := 0 ≤ s.a ∧ s.a < n ∧ 0 ≤ s.b ∧ s.b < n
instance (n : Nat) (s : Sg) : Decidable (EV n s) := by unfold EV; infer_instance
theorem minneg {a b : Int} : (if b < a then b else a) < 0 ↔ a < 0 ∨ b < 0 := by split <;> omega
theorem maxge {a b n : Int} : n ≤ (if a < b then b else a) ↔ n ≤ a ∨ n ≤ b := by split <;> omega
set_option maxHeartbeats 8000000 in
theorem zy9k {xs : List Sg} (hx : xs.length ≤ 1000) {n : Nat} {f fl : Bool} {cs : List AV} {RR : Option AV} (hb : (∃ s ∈ xs, ¬ EV n s) → RR = some (.tup [.agg z3, .int .i64 1])) : ∀ (m i : Nat) (H : Heap), i + m = xs.length → live H 0 = some z3 →
  ((∀ s ∈ xs, EV n s) → ∀ H', live H' 0 = some z3 → zf0j.l0 (.is n f cs) (.is xs.length fl (xs.flatMap sgc)) (.rp 0 0) (.is xs.length fl (xs.flatMap sgc)) (.int .i64 (xs.length : Int)) (.int .i64 (xs.length : Int)) H' = RR) → (∀ s ∈ xs.take i, EV n s) →
  zf0j.l0 (.is n f cs) (.is xs.length fl (xs.flatMap sgc)) (.rp 0 0) (.is xs.length fl (xs.flatMap sgc)) (.int .i64 (xs.length : Int)) (.int .i64 (i : Int)) H = RR := by
 have fa : ∀ k id off, zyd1 k (.rp id off) = some (.rp id (off + k)) := fun _ _ _ => rfl
 intro m
 induction m with
 | zero =>
  intro i H hi h0 hR ht
  obtain rfl : i = xs.length := by omega
  rw [List.take_length] at ht
  exact hR ht H h0
 | succ m ih =>
  intro i H him h0 hR ht
  have hi : i < xs.length := by omega
  have lk : opBin .lss (.int .i64 (i : Int)) (.int .i64 (xs.length : Int)) = some (.bool true) := lssT (by omega)
  have sx := sidxN (sz := 3) (f := fl) (cs := xs.flatMap sgc) hi
  have e : (xs.flatMap sgc).drop (i * 3) = .int .i64 xs[i].a :: .int .i64 xs[i].b :: .bool xs[i].f :: (xs.drop (i + 1)).flatMap sgc := by
   rw [zy4f zyg0, List.drop_eq_getElem_cons hi, List.flatMap_cons]; rfl
  have rx : zyem ((xs.flatMap sgc).drop (i * 3)) (some 3) = some (.agg (sgc xs[i])) := by rw [e]; exact Eq.trans rfl rfl
  have s1' : zydm (H ++ [some [.int .i64 0, .int .i64 0, .bool false]]) 3 (.rp H.length 0) (.agg (sgc xs[i])) = some (H ++ [some (sgc xs[i])]) := zygj (h := H) (z := [.int .i64 0, .int .i64 0, .bool false]) (v := sgc xs[i]) (n := 3) rfl ⟨rfl, rfl⟩
  have gq : live (H ++ [some (sgc xs[i])]) H.length = some (sgc xs[i]) := zya9
  have g0 : live (H ++ [some (sgc xs[i])]) 0 = some z3 := zya8 h0
  have r0 : zyem (sgc xs[i]) none = some (.int .i64 xs[i].a) := Eq.trans rfl rfl
  have r1 : zyem (List.drop 1 (sgc xs[i])) none = some (.int .i64 xs[i].b) := Eq.trans rfl rfl
  have sz := st_z g0
  rw [zf0j.l0_eq]
  by_cases c1 : (if xs[i].b < xs[i].a then xs[i].b else xs[i].a) < 0
  ·have c1' : opBin .lss (.int .i64 (if xs[i].b < xs[i].a then xs[i].b else xs[i].a)) (.int .i64 0) = some (.bool true) := by rw [zy11, decide_eq_true c1]
   rw [hb ⟨xs[i], List.getElem_mem hi, fun hh => by have := minneg.1 c1; unfold EV at hh; omega⟩]
   simp (disch := first | exact dD | fail) only [Wd, W2d, W3d, Nat.reduceAdd, Nat.reduceMul, Nat.reduceSub, lk, sx, rx, s1', gq, fa, r0, r1, mn2, c1', bldz, sz, g0, z3_rd, fz_z]
  have c1' : opBin .lss (.int .i64 (if xs[i].b < xs[i].a then xs[i].b else xs[i].a)) (.int .i64 0) = some (.bool false) := by rw [zy11, decide_eq_false c1]
  by_cases c2 : (n : Int) ≤ (if xs[i].a < xs[i].b then xs[i].b else xs[i].a)
  ·have c2' : opBin .geq (.int .i64 (if xs[i].a < xs[i].b then xs[i].b else xs[i].a)) (.int .i64 (n : Int)) = some (.bool true) := by rw [zy0y, decide_eq_true c2]
   rw [hb ⟨xs[i], List.getElem_mem hi, fun hh => by have := maxge.1 c2; unfold EV at hh; omega⟩]
   simp (disch := first | exact dD | fail) only [Wd, W2d, W3d, Nat.reduceAdd, Nat.reduceMul, Nat.reduceSub, lk, sx, rx, s1', gq, fa, r0, r1, mn2, mx2, c1', c2', bldz, sz, g0, z3_rd, fz_z]
  have c2' : opBin .geq (.int .i64 (if xs[i].a < xs[i].b then xs[i].b else xs[i].a)) (.int .i64 (n : Int)) = some (.bool false) := by rw [zy0y, decide_eq_false c2]
  have g := ih (i + 1) (H ++ [some (sgc xs[i])]) (by omega) g0 hR (fun s hs => by
   rw [List.take_succ_eq_append_getElem hi] at hs
   rcases List.mem_append.1 hs with hs | hs
   ·exact ht s hs
   ·rw [List.mem_singleton] at hs
    subst hs
    have h1 := fun hh => c1 (minneg.2 hh)
    have h2 := fun hh => c2 (maxge.2 hh)
    unfold EV
    omega)
  simp (disch := first | exact dD | fail) only [Wd, W2d, W3d, Nat.reduceAdd, Nat.reduceMul, Nat.reduceSub, lk, sx, rx, s1', gq, fa, r0, r1, mn2, mx2, c1', c2']
  exact g
end Go.Proofs.YtiblnpnfaadmcaaGreat.Am
