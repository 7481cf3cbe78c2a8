import Derived.Test.YtojfiboeghonoaaGreatAmLoc1
import Derived.Test.YtojfiboeghonoaaGreatTRef10
/- Where points lie in a mesh: the triangles about a point; rows of whole numbers that are the same. -/
set_option linter.unusedVariables false
set_option maxRecDepth 10000
set_option linter.unusedSimpArgs false
namespace Go.Proofs.YtojfiboeghonoaaGreat.Am
open Go

section
variable {a b c v : Int} {H : Heap}
def idx3 (a b c v : Int) : Int := if v = a then 0 else if v = b then 1 else if v = c then 2 else -1
theorem index_cv : cv gp fid.zf1y [.is 3 false [.int .i64 a, .int .i64 b, .int .i64 c], .int .i64 v] = some (.int .i64 (idx3 a b c v)) := by
  have l0 : opBin .lss (.int .i64 0) (.int .i64 ((3 : Nat) : Int)) = some (.bool true) := rfl
  have l1 : opBin .lss (.int .i64 1) (.int .i64 ((3 : Nat) : Int)) = some (.bool true) := rfl
  have l2 : opBin .lss (.int .i64 2) (.int .i64 ((3 : Nat) : Int)) = some (.bool true) := rfl
  have l3 : opBin .lss (.int .i64 3) (.int .i64 ((3 : Nat) : Int)) = some (.bool false) := rfl
  have s0 : ∀ cs, opSidx 1 (.is 3 false cs) (.int .i64 0) = some (.ip cs) := fun cs => Eq.trans rfl rfl
  rw [zf1y.eq]
  unfold zf1y.f idx3
  simp (disch := first | exact dD | fail) only [Wd, W2d, W3d, Nat.reduceAdd, Nat.reduceMul, Nat.reduceSub]
  rw [zf1y.l0_eq]
  by_cases h1 : v = a
  · rw [if_pos h1]
    simp (disch := first | exact dD | fail) only [Wd, W2d, W3d, Nat.reduceAdd, Nat.reduceMul, Nat.reduceSub, l0, s0, eqlTF, decide_eq_true h1]
  simp (disch := first | exact dD | fail) only [Wd, W2d, W3d, Nat.reduceAdd, Nat.reduceMul, Nat.reduceSub, l0, s0, eqlTF, decide_eq_false h1, ad01]
  rw [if_neg h1, zf1y.l0_eq]
  by_cases h2 : v = b
  · rw [if_pos h2]
    simp (disch := first | exact dD | fail) only [Wd, W2d, W3d, Nat.reduceAdd, Nat.reduceMul, Nat.reduceSub, l1, ab3.1, eqlTF, decide_eq_true h2]
    rfl
  simp (disch := first | exact dD | fail) only [Wd, W2d, W3d, Nat.reduceAdd, Nat.reduceMul, Nat.reduceSub, l1, ab3.1, eqlTF, decide_eq_false h2, ad11]
  rw [if_neg h2, zf1y.l0_eq]
  by_cases h3 : v = c
  · rw [if_pos h3]
    simp (disch := first | exact dD | fail) only [Wd, W2d, W3d, Nat.reduceAdd, Nat.reduceMul, Nat.reduceSub, l2, ab3.2, eqlTF, decide_eq_true h3]
    rfl
  simp (disch := first | exact dD | fail) only [Wd, W2d, W3d, Nat.reduceAdd, Nat.reduceMul, Nat.reduceSub, l2, ab3.2, eqlTF, decide_eq_false h3, ad21]
  rw [if_neg h3, zf1y.l0_eq]
  simp (disch := first | exact dD | fail) only [Wd, W2d, W3d, Nat.reduceAdd, Nat.reduceMul, Nat.reduceSub, l3]
def hasC (t : Tr) (v : Int) : Prop := t.1 = v ∨ t.2.1 = v ∨ t.2.2 = v
instance (t : Tr) (v : Int) : Decidable (hasC t v) := by unfold hasC; infer_instance
theorem contains_cv : cv gp fid.zf18 [.is 3 false [.int .i64 a, .int .i64 b, .int .i64 c], .int .i64 v] = some (.bool (decide (hasC (a, b, c) v))) := by
  have k1 := fun h => byVal_imm (h := h) (imm_L2' imm_is3 imm_i) (index_cv (a := a) (b := b) (c := c) (v := v))
  rw [zf18.eq]
  unfold zf18.f
  have e : decide (hasC (a, b, c) v) = decide (0 ≤ idx3 a b c v) := by
    rw [decide_eq_decide]
    unfold hasC idx3
    constructor
    · intro h
      split
      · omega
      split
      · omega
      split
      · omega
      · exfalso; rcases h with h | h | h <;> simp only at h <;> omega
    · intro h
      split at h
      · exact .inl (Eq.symm ‹_›)
      split at h
      · exact .inr (.inl (Eq.symm ‹_›))
      split at h
      · exact .inr (.inr (Eq.symm ‹_›))
      · omega
  rw [e]
  simp (disch := first | exact dD | fail) only [Wd, W2d, W3d, Nat.reduceAdd, Nat.reduceMul, Nat.reduceSub, k1, bin_geq]
theorem k_contains {id : Nat} {T : List AV} (hl : live H id = some (.int .i64 a :: .int .i64 b :: .int .i64 c :: T)) : byVal (callW gp) H fid.zf18 [.rs 1 id 0 3, .int .i64 v] = some (.bool (decide (hasC (a, b, c) v))) := by
  refine byVal_flat ?_ (contains_cv (a := a) (b := b) (c := c) (v := v)) rfl
  have e : freeze H (.rs 1 id 0 3) = some (.is 3 false [.int .i64 a, .int .i64 b, .int .i64 c]) := by
    show freezeN (11 + 1) H (.rs 1 id 0 3) = _
    rw [fz_rs, hl, Option.bind_some, if_pos (by simp)]
    rfl
  have e2 : freeze H (.int .i64 v) = some (.int .i64 v) := Eq.trans rfl rfl
  simp only [List.mapM_cons, List.mapM_nil, e, e2]
  rfl
end
def fanI (ts : List Tr) (v : Int) : Nat → Nat → List Int
  | 0, _ => []
  | m + 1, i => if hasC (tat ts i) v then (i : Int) :: fanI ts v m (i + 1) else fanI ts v m (i + 1)
theorem RowI.up {H : Heap} {y : AV} {l : List Int} (hr : RowI H y l) (x : Option (List AV)) : RowI (H ++ [x]) y l := by
  rcases hr with ⟨rfl, rfl⟩ | ⟨id, rfl, hl, hne⟩
  · exact .inl ⟨rfl, rfl⟩
  · exact .inr ⟨id, rfl, live_app_old hl, hne⟩
theorem rowI_nil {H : Heap} : RowI H (.is 0 true []) [] := .inl ⟨rfl, rfl⟩
theorem farI_nil {id : Nat} : FarI (.is 0 true []) id := fun n e => by cases e
theorem fz2i {H : Heap} {y : AV} {l : List Int} {z : Int} (hr : RowI H y l) : freeze H (.tup [y, .int .i64 z]) = some (.tup [.is l.length false (ints l), .int .i64 z]) := frz_tup2 hr.frz (Eq.trans rfl rfl)
section
variable {h : Heap} {q : Mq} {i : Nat} {v : Int}
set_option maxHeartbeats 4000000 in
theorem fan_l0 (hq : q.ok) : ∀ (m i : Nat) (H : Heap) (y : AV) (l : List Int), i + m = q.ts.length → l.length ≤ i → RowI H y l → zf0k.l0 (.int .i64 v) y (.is q.ts.length false (q.ts.flatMap tc)) (.int .i64 (q.ts.length : Int)) (.int .i64 (i : Int)) H = some (.tup [.is (l ++ fanI q.ts v m i).length false (ints (l ++ fanI q.ts v m i)), .int .i64 0]) := by
  have n2 := hq.n2
  intro m
  induction m with
  | zero =>
    intro i H y l him hli hr
    obtain rfl : i = q.ts.length := by omega
    rw [zf0k.l0_eq]
    simp (disch := first | exact dD | fail) only [Wd, W2d, W3d, Nat.reduceAdd, Nat.reduceMul, Nat.reduceSub, fz2i hr]
    rw [show fanI q.ts v 0 q.ts.length = [] from rfl, List.append_nil]
  | succ m ih =>
    intro i H y l him hli hr
    have hi : i < q.ts.length := by omega
    have e := tc_at hi
    have s := fun f cs => sidxN (sz := 3) (f := f) (cs := cs) hi
    have rd : ∀ T : List AV, readCells (.int .i64 (tat q.ts i).1 :: .int .i64 (tat q.ts i).2.1 :: .int .i64 (tat q.ts i).2.2 :: T) (some 3) = some (.agg (tc (tat q.ts i))) := fun T => Eq.trans rfl rfl
    have st := st_app3 (h := H) (z := [.int .i64 0, .int .i64 0, .int .i64 0]) (v := tc (tat q.ts i)) (n := 3) rfl ⟨rfl, rfl⟩
    have lk : opBin .lss (.int .i64 (i : Int)) (.int .i64 (q.ts.length : Int)) = some (.bool true) := lssT (by omega)
    have ar := arrs_rp5 (H := H ++ [some (tc (tat q.ts i))]) (sz := 1) (len := 3) (id := H.length) (off := 0) live_app_self (by simp [tc])
    have kc := k_contains (v := v) (H := H ++ [some (tc (tat q.ts i))]) (id := H.length) (T := []) live_app_self
    have hr' := hr.up (some (tc (tat q.ts i)))
    have bs := bsl1 (z := (i : Int))
    rw [zf0k.l0_eq]
    unfold fanI
    by_cases hc : hasC (tat q.ts i) v
    · obtain ⟨y', H', g1, g2, g3, g4⟩ := hr'.app (z := (i : Int)) (by omega)
      rw [if_pos hc]
      have kc : byVal (callW gp) (H ++ [some (tc (tat q.ts i))]) fid.zf18 [.rs 1 H.length 0 3, .int .i64 v] = some (.bool true) := by rw [kc]; exact congrArg (fun b => some (AV.bool b)) (decide_eq_true hc)
      have g := ih (i + 1) H' y' (l ++ [(i : Int)]) (by omega) (by simp; omega) g2
      rw [List.append_assoc] at g
      simp (disch := first | exact dD | fail) only [Wd, W2d, W3d, Nat.reduceAdd, Nat.reduceMul, Nat.reduceSub, lk, s, e, rd, st, ar, kc, bs, g1]
      exact g
    · rw [if_neg hc]
      have kc : byVal (callW gp) (H ++ [some (tc (tat q.ts i))]) fid.zf18 [.rs 1 H.length 0 3, .int .i64 v] = some (.bool false) := by rw [kc]; exact congrArg (fun b => some (AV.bool b)) (decide_eq_false hc)
      have g := ih (i + 1) _ y l (by omega) (by omega) hr'
      simp (disch := first | exact dD | fail) only [Wd, W2d, W3d, Nat.reduceAdd, Nat.reduceMul, Nat.reduceSub, lk, s, e, rd, st, ar, kc]
      exact g
theorem isZ {H : Heap} {z : Int} : freeze H (.tup [.is 0 true [], .int .i64 z]) = some (.tup [.is 0 false [], .int .i64 z]) := Eq.trans rfl rfl
theorem k_lFan (hq : q.ok) (hv : InR q.ps.length v) : byVal (callW gp) h fid.zf0k [.agg (msc q.ms), .int .i64 v] = some (.tup [.is (fanI q.ts v q.ts.length 0).length false (ints (fanI q.ts v q.ts.length 0)), .int .i64 0]) := byVal_imm (imm_L2' imm_ms imm_i) (by
  have fa : ∀ k id off, opFaddr k (.rp id off) = some (.rp id (off + k)) := fun _ _ _ => rfl
  have kc := fun h => k_check (h := h) hq
  have g := fan_l0 hq (v := v) q.ts.length 0 [some (msc q.ms)] (.is 0 true []) [] (by omega) (by simp) rowI_nil
  rw [List.nil_append] at g
  obtain ⟨v0, v1⟩ := hv
  rw [zf0k.eq]
  unfold zf0k.f
  simp (disch := first | exact dD | fail) only [Wd, W2d, W3d, Nat.reduceAdd, Nat.reduceMul, Nat.reduceSub, fa, ms_rc, kc, neqF, mq_0, mq_1, lssF (show ¬ v < 0 by omega), geqF (show ¬ (q.ps.length : Int) ≤ v by omega)]
  exact g)
theorem ints_at {l : List Int} (hi : i < l.length) : (ints l).drop i = .int .i64 l[i] :: (ints l).drop (i + 1) := by
  have h : i < (ints l).length := by rw [ints_len]; exact hi
  rw [List.drop_eq_getElem_cons h]
  congr 1
  simp [ints]
theorem same_l0 {l m : List Int} {f g : Bool} (hlm : l.length = m.length) (hn : l.length ≤ 1000000) : ∀ (k i : Nat), i + k = l.length → zf0j.l0 (.is l.length f (ints l)) (.is m.length g (ints m)) (.int .i64 (i : Int)) = some (.bool (decide (l.drop i = m.drop i))) := by
  intro k
  induction k with
  | zero =>
    intro i hik
    obtain rfl : i = l.length := by omega
    rw [zf0j.l0_eq]
    have e : l.drop l.length = m.drop l.length := by rw [List.drop_length, hlm, List.drop_length]
    simp (disch := first | exact dD | fail) only [Wd, W2d, W3d, Nat.reduceAdd, Nat.reduceMul, Nat.reduceSub, decide_eq_true e]
  | succ k ih =>
    intro i hik
    have hi : i < l.length := by omega
    have hj : i < m.length := by omega
    have lk : opBin .lss (.int .i64 (i : Int)) (.int .i64 (l.length : Int)) = some (.bool true) := lssT (by omega)
    have s1 := fun f cs => sidxN (sz := 1) (f := f) (cs := cs) hi
    have s2 := fun f cs => sidxN (sz := 1) (f := f) (cs := cs) hj
    have e1 := ints_at hi
    have e2 := ints_at hj
    have ih := ih (i + 1) (by omega)
    rw [List.drop_eq_getElem_cons hi, List.drop_eq_getElem_cons hj]
    rw [zf0j.l0_eq]
    have m1 : i * 1 = i := Nat.mul_one i
    generalize l[i] = a at *
    generalize m[i] = b at *
    by_cases h : a = b
    · subst h
      have e : decide (a :: l.drop (i + 1) = a :: m.drop (i + 1)) = decide (l.drop (i + 1) = m.drop (i + 1)) := by rw [decide_eq_decide]; simp
      rw [e, ← ih]
      simp (disch := first | exact dD | fail) only [Wd, W2d, W3d, Nat.reduceAdd, Nat.reduceMul, Nat.reduceSub, lk, s1, s2, m1, e1, e2, neqF]
    · have e : decide (a :: l.drop (i + 1) = b :: m.drop (i + 1)) = false := decide_eq_false (by simp [h])
      rw [e]
      have nq : opBin .neq (.int .i64 a) (.int .i64 b) = some (.bool true) := by rw [bin_neq]; exact congrArg (fun b => some (AV.bool b)) (decide_eq_true h)
      simp (disch := first | exact dD | fail) only [Wd, W2d, W3d, Nat.reduceAdd, Nat.reduceMul, Nat.reduceSub, lk, s1, s2, m1, e1, e2, nq]
theorem same_cv {l m : List Int} {f g : Bool} (hn : l.length ≤ 1000000) (hm : m.length ≤ 1000000) : cv gp fid.zf0j [.is l.length f (ints l), .is m.length g (ints m)] = some (.bool (decide (l = m))) := by
  rw [zf0j.eq]
  unfold zf0j.f
  by_cases h : l.length = m.length
  · have g := same_l0 (f := f) (g := g) h hn l.length 0 (by omega)
    rw [List.drop_zero, List.drop_zero] at g
    have nq : opBin .neq (.int .i64 (l.length : Int)) (.int .i64 (m.length : Int)) = some (.bool false) := by rw [bin_neq]; exact congrArg (fun b => some (AV.bool b)) (decide_eq_false (by omega))
    simp (disch := first | exact dD | fail) only [Wd, W2d, W3d, Nat.reduceAdd, Nat.reduceMul, Nat.reduceSub, nq]
    exact g
  · have nq : opBin .neq (.int .i64 (l.length : Int)) (.int .i64 (m.length : Int)) = some (.bool true) := by rw [bin_neq]; exact congrArg (fun b => some (AV.bool b)) (decide_eq_true (by omega))
    have e : decide (l = m) = false := decide_eq_false fun e => h (by rw [e])
    rw [e]
    simp (disch := first | exact dD | fail) only [Wd, W2d, W3d, Nat.reduceAdd, Nat.reduceMul, Nat.reduceSub, nq]
theorem k_sameT {l m : List Int} (hn : l.length ≤ 1000000) (hm : m.length ≤ 1000000) : byVal (callW gp) h fid.zf0j [.is l.length false (ints l), .is m.length true (ints m)] = some (.bool (decide (l = m))) := by
  refine byVal_flat ?_ (same_cv (f := false) (g := false) hn hm) rfl
  have e : ∀ f, freeze h (.is l.length f (ints l)) = some (.is l.length false (ints l)) := fun f => by
    show ((ints l).mapM (freezeN 11 h)).map (AV.is l.length false) = _
    rw [imm_mapM (imm_ints l) (by omega)]
    rfl
  have e' : ∀ f, freeze h (.is m.length f (ints m)) = some (.is m.length false (ints m)) := fun f => by
    show ((ints m).mapM (freezeN 11 h)).map (AV.is m.length false) = _
    rw [imm_mapM (imm_ints m) (by omega)]
    rfl
  simp only [List.mapM_cons, List.mapM_nil, e, e']
  rfl
end
end Go.Proofs.YtojfiboeghonoaaGreat.Am
