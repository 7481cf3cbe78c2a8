import Derived.Test.YtiblnpnfaadmcaaGreatAmPlan11
/- Section 09: the reference's Ends, Share, Least2. -/
set_option linter.unusedVariables false
set_option maxRecDepth 10000
set_option linter.unusedSimpArgs false
namespace Go.Proofs.YtiblnpnfaadmcaaGreat.Am
open Go

theorem geqT {x y : Int} (h : y ≤ x) : opBin .geq (.int .i64 x) (.int .i64 y) = some (.bool true) := by
 simp only [opBin, zy7u]
 rw [decide_eq_true h]
 rfl
theorem geqF {x y : Int} (h : ¬ y ≤ x) : opBin .geq (.int .i64 x) (.int .i64 y) = some (.bool false) := by
 simp only [opBin, zy7u]
 rw [decide_eq_false h]
 rfl
def EVs (n : Nat) (l : List Sg) : Prop := ∀ s ∈ l, EV n s
instance (n : Nat) (l : List Sg) : Decidable (EVs n l) := by unfold EVs; infer_instance
section
variable {h : Heap}
set_option maxHeartbeats 4000000 in
theorem ends_l0 {xs : List Sg} {n : Nat} (hn : xs.length ≤ 1000) {f : Bool} : ∀ (m i : Nat), i + m = xs.length → zf0m.l0 (.int .i64 (n : Int)) (.is xs.length f (xs.flatMap sgc)) (.int .i64 (i : Int)) = some (.bool (decide (EVs n (xs.drop i)))) := by
 intro m
 induction m with
 | zero =>
  intro i him
  have lk : opBin .lss (.int .i64 (i : Int)) (.int .i64 (xs.length : Int)) = some (.bool false) := lssF (by omega)
  have e : decide (EVs n (xs.drop i)) = true := by
   rw [List.drop_of_length_le (by omega)]
   exact decide_eq_true fun s hs => by cases hs
  rw [zf0m.l0_eq, e]
  simp (disch := first | exact dD | fail) only [Wd, W2d, W3d, Nat.reduceAdd, Nat.reduceMul, Nat.reduceSub, lk]
 | succ m ih =>
  intro i him
  have hi : i < xs.length := by omega
  have lk : opBin .lss (.int .i64 (i : Int)) (.int .i64 (xs.length : Int)) = some (.bool true) := lssT (by omega)
  have sx := sidxN (sz := 3) (f := f) (cs := xs.flatMap sgc) hi
  have e0 : (xs.flatMap sgc).drop (i * 3) = .int .i64 xs[i].a :: .int .i64 xs[i].b :: .bool xs[i].f :: (xs.drop (i + 1)).flatMap sgc := by
   rw [zy4f zyg0, List.drop_eq_getElem_cons hi, List.flatMap_cons]; rfl
  have ih := ih (i + 1) (by omega)
  rw [zf0m.l0_eq, List.drop_eq_getElem_cons hi]
  generalize xs[i] = s at *
  by_cases h1 : s.a < 0
  ·have e : decide (EVs n (s :: xs.drop (i + 1))) = false := decide_eq_false fun h => by have := (h s (List.mem_cons_self ..)).1; omega
   have l1 := lssT h1
   rw [e]
   simp (disch := first | exact dD | fail) only [Wd, W2d, W3d, Nat.reduceAdd, Nat.reduceMul, Nat.reduceSub, lk, sx, e0, l1]
  have l1 := lssF h1
  by_cases h2 : (n : Int) ≤ s.a
  ·have e : decide (EVs n (s :: xs.drop (i + 1))) = false := decide_eq_false fun h => by have := (h s (List.mem_cons_self ..)).2.1; omega
   have l2 := geqT h2
   rw [e]
   simp (disch := first | exact dD | fail) only [Wd, W2d, W3d, Nat.reduceAdd, Nat.reduceMul, Nat.reduceSub, lk, sx, e0, l1, l2]
  have l2 := geqF h2
  by_cases h3 : s.b < 0
  ·have e : decide (EVs n (s :: xs.drop (i + 1))) = false := decide_eq_false fun h => by have := (h s (List.mem_cons_self ..)).2.2.1; omega
   have l3 := lssT h3
   rw [e]
   simp (disch := first | exact dD | fail) only [Wd, W2d, W3d, Nat.reduceAdd, Nat.reduceMul, Nat.reduceSub, lk, sx, e0, l1, l2, l3]
  have l3 := lssF h3
  by_cases h4 : (n : Int) ≤ s.b
  ·have e : decide (EVs n (s :: xs.drop (i + 1))) = false := decide_eq_false fun h => by have := (h s (List.mem_cons_self ..)).2.2.2; omega
   have l4 := geqT h4
   rw [e]
   simp (disch := first | exact dD | fail) only [Wd, W2d, W3d, Nat.reduceAdd, Nat.reduceMul, Nat.reduceSub, lk, sx, e0, l1, l2, l3, l4]
  have l4 := geqF h4
  have e : decide (EVs n (s :: xs.drop (i + 1))) = decide (EVs n (xs.drop (i + 1))) := decide_eq_decide.2 ⟨fun h t ht => h t (List.mem_cons_of_mem _ ht), fun h t ht => by
   rcases List.mem_cons.1 ht with rfl | ht
   ·exact ⟨by omega, by omega, by omega, by omega⟩
   ·exact h t ht⟩
  rw [e, ← ih]
  simp (disch := first | exact dD | fail) only [Wd, W2d, W3d, Nat.reduceAdd, Nat.reduceMul, Nat.reduceSub, lk, sx, e0, l1, l2, l3, l4]
theorem k_ends {xs : List Sg} {n : Nat} (hn : xs.length ≤ 1000) : byVal (callW gp) h fid.zf0m [.int .i64 (n : Int), .is xs.length false (xs.flatMap sgc)] = some (.bool (decide (EVs n xs))) := zy1m (zy74 (imm_int.mono (by omega)) zy7f) (by
 have g := ends_l0 (n := n) (f := false) hn xs.length 0 (by omega)
 rw [List.drop_zero] at g
 rw [zf0m.eq]
 exact g)
theorem eqlD {a b : Int} : opBin .eql (.int .i64 a) (.int .i64 b) = some (.bool (decide (a = b))) := by
 simp only [opBin, zy7u]
 by_cases h : a = b <;> simp [h]
theorem k_share {s t : Sg} : byVal (callW gp) h fid.zf1b [.agg (sgc s), .agg (sgc t)] = some (.bool (decide (s.a = t.a ∨ s.a = t.b ∨ s.b = t.a ∨ s.b = t.b))) := zy1m (zy74 imm_sg imm_sg) (by
 rw [zf1b.eq]
 unfold zf1b.f sgc
 have fa : ∀ k id off, zyd1 k (.rp id off) = some (.rp id (off + k)) := fun _ _ _ => rfl
 by_cases h1 : s.a = t.a
 ·simp (disch := first | exact dD | fail) only [Wd, W2d, W3d, Nat.reduceAdd, Nat.reduceMul, Nat.reduceSub, fa, eqlD, h1, decide_true, true_or]
 by_cases h2 : s.a = t.b
 ·simp (disch := first | exact dD | fail) only [Wd, W2d, W3d, Nat.reduceAdd, Nat.reduceMul, Nat.reduceSub, fa, eqlD, decide_eq_false h1, h2, decide_true, true_or, or_true]
 by_cases h3 : s.b = t.a
 ·simp (disch := first | exact dD | fail) only [Wd, W2d, W3d, Nat.reduceAdd, Nat.reduceMul, Nat.reduceSub, fa, eqlD, decide_eq_false h1, decide_eq_false h2, h3, decide_true, true_or, or_true]
 have e : decide (s.a = t.a ∨ s.a = t.b ∨ s.b = t.a ∨ s.b = t.b) = decide (s.b = t.b) := decide_eq_decide.2 ⟨fun h => by
  rcases h with h | h | h | h
  ·exact absurd h h1
  ·exact absurd h h2
  ·exact absurd h h3
  ·exact h, fun h => .inr (.inr (.inr h))⟩
 rw [e]
 simp (disch := first | exact dD | fail) only [Wd, W2d, W3d, Nat.reduceAdd, Nat.reduceMul, Nat.reduceSub, fa, eqlD, decide_eq_false h1, decide_eq_false h2, decide_eq_false h3])
structure LV (H : Heap) (m : Rat) : Prop where
 a : live H 0 = some z3
 b : live H 1 = some (rcl m)
 z : Rz m 2000
theorem LV.step {H : Heap} {m d : Rat} (e : LV H m) (hd : Rz d 1500) : LV (H.set 1 (some (rcl (minQ m d)))) (minQ m d) ∧ zydm H 3 (.rp 1 0) (ra (minQ m d)) = some (H.set 1 (some (rcl (minQ m d)))) := by
 have hl := zyae e.b
 refine ⟨⟨by rw [zyag hl, if_neg (by decide)]; exact e.a, by rw [zyag hl, if_pos rfl], ?_⟩, zygk rfl e.b rfl⟩
 have := e.z
 have hd' := hd.mono (m := 2000) (by omega)
 unfold minQ; split <;> assumption
theorem LV.ld {H : Heap} {m : Rat} (e : LV H m) : zyd4 H (some 3) (.rp 1 0) = some (ra m) := by
 have : zyd4 H (some 3) (.rp 1 0) = (live H 1).bind fun cs => zyem (cs.drop 0) (some 3) := rfl
 rw [this, e.b]
 exact Eq.trans rfl rfl
variable {ps : List (Rat × Rat)} {ss : List Sq} {R : Option AV}
theorem zye4 {i : Nat} (hi : i < ps.length) : zyem ((pcs ps).drop (i * 6)) (some 6) = some (pa (px ps i) (py ps i)) := by
 rw [zye3 hi]; exact Eq.trans rfl rfl
set_option maxHeartbeats 4000000 in
theorem rl_l1 (hz : PZ ps) (hn : ps.length ≤ 1000) {f g : Bool} {i : Nat} (hi : i < ps.length) : ∀ (n k : Nat) (H : Heap) (m : Rat), k + n = ps.length → LV H m →
  (∀ H', LV H' (((List.range' k n).map (dF ps i)).foldl minQ m) → zf0n.l2 (.is ps.length f (pcs ps)) (.is ss.length g (scs ss)) (.rp 0 0) (.rp 1 0) (.int .i64 (i : Int)) (.int .i64 0) H' = R) →
  zf0n.l1 (.is ps.length f (pcs ps)) (.is ss.length g (scs ss)) (.rp 0 0) (.rp 1 0) (.int .i64 (i : Int)) (.int .i64 (k : Int)) H = R := by
 intro n
 induction n with
 | zero =>
  intro k H m hk e hR
  have lk : opBin .lss (.int .i64 (k : Int)) (.int .i64 (ps.length : Int)) = some (.bool false) := lssF (by omega)
  rw [zf0n.l1_eq]
  simp (disch := first | exact dD | fail) only [Wd, W2d, W3d, Nat.reduceAdd, Nat.reduceMul, Nat.reduceSub, lk]
  exact hR H e
 | succ n ih =>
  intro k H m hk e hR
  have hk' : k < ps.length := by omega
  have lk : opBin .lss (.int .i64 (k : Int)) (.int .i64 (ps.length : Int)) = some (.bool true) := lssT (by omega)
  have s1 := sidxN (sz := 6) (f := f) (cs := pcs ps) hi
  have s2 := sidxN (sz := 6) (f := f) (cs := pcs ps) hk'
  have r1 := zye4 hi
  have r2 := zye4 hk'
  obtain ⟨z1, z2⟩ := hz i hi
  obtain ⟨z3', z4⟩ := hz k hk'
  have hd : Rz (dF ps i k) 1500 := zy5c z1 z2 z3' z4
  have kf : ∀ h, byVal (callW gp) h fid.zf0o [pa (px ps i) (py ps i), pa (px ps k) (py ps k)] = some (ra (dF ps i k)) := fun h => zy8s (h := h) (z1.mono (by omega)) (z2.mono (by omega)) (z3'.mono (by omega)) (z4.mono (by omega))
  have km := fun h => zy8t (h := h) (e.z.mono (m := 20000) (by omega)) (hd.mono (m := 20000) (by omega))
  obtain ⟨e', st⟩ := e.step hd
  have g := ih (k + 1) _ _ (by omega) e' (fun H' h' => hR H' (by rw [zyei, List.map_cons, List.foldl_cons]; exact h'))
  rw [st_rp] at st
  rw [zf0n.l1_eq]
  simp (disch := first | exact dD | fail) only [Wd, W2d, W3d, Nat.reduceAdd, Nat.reduceMul, Nat.reduceSub, lk, s1, s2, r1, r2, kf, km, e.b, zyel, st]
  exact g
theorem drop_sat {k : Nat} (hk : k < ss.length) : ss.drop k = sat ss k :: ss.drop (k + 1) := by
 rw [List.drop_eq_getElem_cons hk]
 congr 1
 unfold sat
 simp [List.getD, List.getElem?_eq_getElem hk]
theorem zyc1 {s : Sq} {l : List Sq} {i : Nat} : nears ps (s :: l) i = if has s i then nears ps l i else dN ps s i :: nears ps l i := by
 unfold nears
 rw [List.filter_cons]
 cases has s i <;> rfl
set_option maxHeartbeats 8000000 in
theorem rl_l2 (hz : PZ ps) (hsv : SV ps.length ss) (hn : ps.length ≤ 1000) (hm : ss.length ≤ 1000) {f g : Bool} {i : Nat} (hi : i < ps.length) : ∀ (n k : Nat) (H : Heap) (m : Rat), k + n = ss.length → LV H m →
  (∀ H', LV H' ((nears ps (ss.drop k) i).foldl minQ m) → zf0n.l0 (.is ps.length f (pcs ps)) (.is ss.length g (scs ss)) (.rp 0 0) (.rp 1 0) (.int .i64 ((i + 1 : Nat) : Int)) H' = R) →
  zf0n.l2 (.is ps.length f (pcs ps)) (.is ss.length g (scs ss)) (.rp 0 0) (.rp 1 0) (.int .i64 (i : Int)) (.int .i64 (k : Int)) H = R := by
 intro n
 induction n with
 | zero =>
  intro k H m hk e hR
  have lk : opBin .lss (.int .i64 (k : Int)) (.int .i64 (ss.length : Int)) = some (.bool false) := lssF (by omega)
  have g := hR H (by rw [List.drop_of_length_le (by omega)]; exact e)
  rw [zf0n.l2_eq]
  simp (disch := first | exact dD | fail) only [Wd, W2d, W3d, Nat.reduceAdd, Nat.reduceMul, Nat.reduceSub, lk]
  exact g
 | succ n ih =>
  intro k H m hk e hR
  have hk' : k < ss.length := by omega
  rw [drop_sat hk', zyc1] at hR
  have lk : opBin .lss (.int .i64 (k : Int)) (.int .i64 (ss.length : Int)) = some (.bool true) := lssT (by omega)
  have s0 := sidxN (sz := 3) (f := g) (cs := scs ss) hk'
  have e0 := zyfo (ss := ss) hk'
  obtain ⟨v1, v2⟩ := hsv k hk'
  have sa := sidxN (sz := 6) (f := f) (cs := pcs ps) v1
  have sb := sidxN (sz := 6) (f := f) (cs := pcs ps) v2
  have si := sidxN (sz := 6) (f := f) (cs := pcs ps) hi
  have ra' := zye4 v1
  have rb' := zye4 v2
  have ri := zye4 hi
  obtain ⟨z1, z2⟩ := hz _ v1
  obtain ⟨z3', z4⟩ := hz _ v2
  obtain ⟨z5, z6'⟩ := hz _ hi
  have hd : Rz (dN ps (sat ss k) i) 1500 := zybz z1 z2 z3' z4 z5 z6'
  have kf : ∀ h, byVal (callW gp) h fid.zf18 [pa (px ps (sat ss k).1) (py ps (sat ss k).1), pa (px ps (sat ss k).2.1) (py ps (sat ss k).2.1), pa (px ps i) (py ps i)] = some (ra (dN ps (sat ss k) i)) := fun h => by
   have := zy8u (h := h) (z1.mono (m := 100) (by omega)) (z2.mono (m := 100) (by omega)) (z3'.mono (m := 100) (by omega)) (z4.mono (m := 100) (by omega)) (z5.mono (m := 100) (by omega)) (z6'.mono (m := 100) (by omega))
   rw [← near_eq] at this
   exact this
  have km := fun h => zy8t (h := h) (e.z.mono (m := 20000) (by omega)) (hd.mono (m := 20000) (by omega))
  obtain ⟨e', st⟩ := e.step hd
  rw [st_rp] at st
  rw [zf0n.l2_eq]
  unfold zf0n.j0
  by_cases h1 : (sat ss k).1 = i
  ·have hh : has (sat ss k) i = true := by unfold has; rw [decide_eq_true h1]; rfl
   rw [if_pos hh] at hR
   have n1 : opBin .neq (.int .i64 ((sat ss k).1 : Int)) (.int .i64 (i : Int)) = some (.bool false) := by rw [zy12]; exact congrArg (fun b => some (AV.bool b)) (decide_eq_false (by omega))
   have g := ih (k + 1) H m (by omega) e hR
   simp (disch := first | exact dD | fail) only [Wd, W2d, W3d, Nat.reduceAdd, Nat.reduceMul, Nat.reduceSub, lk, s0, e0, n1]
   exact g
  have n1 : opBin .neq (.int .i64 ((sat ss k).1 : Int)) (.int .i64 (i : Int)) = some (.bool true) := by rw [zy12]; exact congrArg (fun b => some (AV.bool b)) (decide_eq_true (by omega))
  by_cases h2 : (sat ss k).2.1 = i
  ·have hh : has (sat ss k) i = true := by unfold has; rw [decide_eq_true h2, Bool.or_true]
   rw [if_pos hh] at hR
   have n2 : opBin .neq (.int .i64 ((sat ss k).2.1 : Int)) (.int .i64 (i : Int)) = some (.bool false) := by rw [zy12]; exact congrArg (fun b => some (AV.bool b)) (decide_eq_false (by omega))
   have g := ih (k + 1) H m (by omega) e hR
   simp (disch := first | exact dD | fail) only [Wd, W2d, W3d, Nat.reduceAdd, Nat.reduceMul, Nat.reduceSub, lk, s0, e0, n1, n2]
   exact g
  have n2 : opBin .neq (.int .i64 ((sat ss k).2.1 : Int)) (.int .i64 (i : Int)) = some (.bool true) := by rw [zy12]; exact congrArg (fun b => some (AV.bool b)) (decide_eq_true (by omega))
  have hh : has (sat ss k) i = false := by unfold has; rw [decide_eq_false h1, decide_eq_false h2]; rfl
  rw [hh, if_neg (by decide)] at hR
  have g := ih (k + 1) _ _ (by omega) e' hR
  simp (disch := first | exact dD | fail) only [Wd, W2d, W3d, Nat.reduceAdd, Nat.reduceMul, Nat.reduceSub, lk, s0, e0, n1, n2, e.b, zyel, sa, sb, si, ra', rb', ri, kf, km, st]
  exact g
theorem zy5t {l l' : List Rat} {m : Rat} : (l ++ l').foldl minQ m = l'.foldl minQ (l.foldl minQ m) := List.foldl_append ..
set_option maxHeartbeats 8000000 in
theorem rl_l0 (hz : PZ ps) (hsv : SV ps.length ss) (hn : ps.length ≤ 1000) (hm : ss.length ≤ 1000) {f g : Bool} : ∀ (n i : Nat) (H : Heap) (m : Rat), i + n = ps.length → LV H m →
  (∀ H', LV H' (((List.range' i n).flatMap (row1' ps ss)).foldl minQ m) → zf0n.l3 (.is ps.length f (pcs ps)) (.is ss.length g (scs ss)) (.rp 0 0) (.rp 1 0) (.int .i64 0) H' = R) →
  zf0n.l0 (.is ps.length f (pcs ps)) (.is ss.length g (scs ss)) (.rp 0 0) (.rp 1 0) (.int .i64 (i : Int)) H = R := by
 intro n
 induction n with
 | zero =>
  intro i H m hk e hR
  have lk : opBin .lss (.int .i64 (i : Int)) (.int .i64 (ps.length : Int)) = some (.bool false) := lssF (by omega)
  have g := hR H e
  rw [zf0n.l0_eq]
  simp (disch := first | exact dD | fail) only [Wd, W2d, W3d, Nat.reduceAdd, Nat.reduceMul, Nat.reduceSub, lk]
  exact g
 | succ n ih =>
  intro i H m hk e hR
  have hi : i < ps.length := by omega
  rw [zyei, List.flatMap_cons] at hR
  have lk : opBin .lss (.int .i64 (i : Int)) (.int .i64 (ps.length : Int)) = some (.bool true) := lssT (by omega)
  have g := rl_l1 (R := R) (ss := ss) hz hn (f := f) (g := g) hi (ps.length - (i + 1)) (i + 1) H m (by omega) e (fun H1 e1 => by
   refine rl_l2 hz hsv hn hm hi ss.length 0 H1 _ (by omega) e1 (fun H2 e2 => ?_)
   refine ih (i + 1) H2 _ (by omega) e2 (fun H3 e3 => hR H3 ?_)
   unfold row1'
   rw [zy5t, zy5t]
   exact e3)
  rw [zf0n.l0_eq]
  simp (disch := first | exact dD | fail) only [Wd, W2d, W3d, Nat.reduceAdd, Nat.reduceMul, Nat.reduceSub, lk]
  exact g
def zy6t (ss : List Sq) (i k : Nat) : Bool := !has (sat ss k) (sat ss i).1 && !has (sat ss k) (sat ss i).2.1
theorem zy0m {i k : Nat} {l : List Nat} : zy0k ps ss i (k :: l) = if zy6t ss i k then dA ps (sat ss i) (sat ss k) :: zy0k ps ss i l else zy0k ps ss i l := by
 unfold zy0k zy6t
 rw [List.filter_cons]
 cases (!has (sat ss k) (sat ss i).1 && !has (sat ss k) (sat ss i).2.1) <;> rfl
theorem share_two {i k : Nat} : (decide ((sq_ (sat ss i)).a = (sq_ (sat ss k)).a ∨ (sq_ (sat ss i)).a = (sq_ (sat ss k)).b ∨ (sq_ (sat ss i)).b = (sq_ (sat ss k)).a ∨ (sq_ (sat ss i)).b = (sq_ (sat ss k)).b)) = !zy6t ss i k := by
 unfold zy6t has sq_
 simp only [Int.natCast_inj]
 generalize (sat ss i).1 = a
 generalize (sat ss i).2.1 = b
 generalize (sat ss k).1 = c
 generalize (sat ss k).2.1 = d
 by_cases h1 : c = a <;> by_cases h2 : d = a <;> by_cases h3 : c = b <;> by_cases h4 : d = b <;> simp_all [eq_comm]
theorem scs_rd {i : Nat} (hi : i < ss.length) : zyem ((scs ss).drop (i * 3)) (some 3) = some (.agg (sgc (sq_ (sat ss i)))) := by
 rw [zyfo hi]; exact Eq.trans rfl rfl
theorem scs_0 {i : Nat} (hi : i < ss.length) : zyem ((scs ss).drop (i * 3)) none = some (.int .i64 ((sat ss i).1 : Int)) := by
 rw [zyfo hi]; exact Eq.trans rfl rfl
theorem scs_1 {i : Nat} (hi : i < ss.length) : zyem (((scs ss).drop (i * 3)).drop 1) none = some (.int .i64 ((sat ss i).2.1 : Int)) := by
 rw [zyfo hi]; exact Eq.trans rfl rfl
theorem fad_ip {k : Nat} {cs : List AV} : zyd1 k (.ip cs) = some (.ip (cs.drop k)) := rfl
set_option maxHeartbeats 8000000 in
theorem rl_l4 (hz : PZ ps) (hsv : SV ps.length ss) (hn : ps.length ≤ 1000) (hm : ss.length ≤ 1000) {f g : Bool} {i : Nat} (hi : i < ss.length) : ∀ (n k : Nat) (H : Heap) (m : Rat), k + n = i → LV H m →
  (∀ H', LV H' ((zy0k ps ss i (List.range' k n)).foldl minQ m) → zf0n.l3 (.is ps.length f (pcs ps)) (.is ss.length g (scs ss)) (.rp 0 0) (.rp 1 0) (.int .i64 ((i + 1 : Nat) : Int)) H' = R) →
  zf0n.l4 (.is ps.length f (pcs ps)) (.is ss.length g (scs ss)) (.rp 0 0) (.rp 1 0) (.int .i64 (i : Int)) (.int .i64 (k : Int)) H = R := by
 intro n
 induction n with
 | zero =>
  intro k H m hk e hR
  have lk : opBin .lss (.int .i64 (k : Int)) (.int .i64 (i : Int)) = some (.bool false) := lssF (by omega)
  have g := hR H e
  rw [zf0n.l4_eq]
  simp (disch := first | exact dD | fail) only [Wd, W2d, W3d, Nat.reduceAdd, Nat.reduceMul, Nat.reduceSub, lk]
  exact g
 | succ n ih =>
  intro k H m hk e hR
  have hk' : k < ss.length := by omega
  rw [zyei, zy0m] at hR
  have lk : opBin .lss (.int .i64 (k : Int)) (.int .i64 (i : Int)) = some (.bool true) := lssT (by omega)
  have s0 := sidxN (sz := 3) (f := g) (cs := scs ss) hk'
  have t0 := sidxN (sz := 3) (f := g) (cs := scs ss) hi
  have r0 := scs_rd hk'
  have r1 := scs_0 hk'
  have r2 := scs_1 hk'
  have q0 := scs_rd hi
  have q1 := scs_0 hi
  have q2 := scs_1 hi
  have sh := fun h => k_share (h := h) (s := sq_ (sat ss i)) (t := sq_ (sat ss k))
  rw [share_two] at sh
  obtain ⟨v1, v2⟩ := hsv k hk'
  obtain ⟨w1, w2⟩ := hsv i hi
  have sa := sidxN (sz := 6) (f := f) (cs := pcs ps) v1
  have sb := sidxN (sz := 6) (f := f) (cs := pcs ps) v2
  have ta := sidxN (sz := 6) (f := f) (cs := pcs ps) w1
  have tb := sidxN (sz := 6) (f := f) (cs := pcs ps) w2
  have ra' := zye4 v1
  have rb' := zye4 v2
  have rc' := zye4 w1
  have rd' := zye4 w2
  obtain ⟨z1, z2⟩ := hz _ v1
  obtain ⟨z3', z4⟩ := hz _ v2
  obtain ⟨z5, z6'⟩ := hz _ w1
  obtain ⟨z7, z8⟩ := hz _ w2
  have hd : Rz (dA ps (sat ss i) (sat ss k)) 1500 := apart_z z5 z6' z7 z8 z1 z2 z3' z4
  have kf : ∀ h, byVal (callW gp) h fid.zf0h [pa (px ps (sat ss i).1) (py ps (sat ss i).1), pa (px ps (sat ss i).2.1) (py ps (sat ss i).2.1), pa (px ps (sat ss k).1) (py ps (sat ss k).1), pa (px ps (sat ss k).2.1) (py ps (sat ss k).2.1)] = some (ra (dA ps (sat ss i) (sat ss k))) := fun h => k_r9apart (h := h) z5 z6' z7 z8 z1 z2 z3' z4
  have km := fun h => zy8t (h := h) (e.z.mono (m := 20000) (by omega)) (hd.mono (m := 20000) (by omega))
  obtain ⟨e', st⟩ := e.step hd
  rw [st_rp] at st
  rw [zf0n.l4_eq]
  cases ht : zy6t ss i k with
  | false =>
   rw [ht] at hR sh
   have g := ih (k + 1) H m (by omega) e hR
   simp (disch := first | exact dD | fail) only [Wd, W2d, W3d, Nat.reduceAdd, Nat.reduceMul, Nat.reduceSub, lk, s0, t0, r0, q0, sh, notT, notF, Bool.not_false]
   exact g
  | true =>
   rw [ht] at hR sh
   have g := ih (k + 1) _ _ (by omega) e' hR
   simp (disch := first | exact dD | fail) only [Wd, W2d, W3d, Nat.reduceAdd, Nat.reduceMul, Nat.reduceSub, lk, s0, t0, r0, q0, sh, notT, notF, Bool.not_true, fad_ip, r1, r2, q1, q2, sa, sb, ta, tb, ra', rb', rc', rd', e.b, zyel, kf, km, st]
   exact g
end
end Go.Proofs.YtiblnpnfaadmcaaGreat.Am
