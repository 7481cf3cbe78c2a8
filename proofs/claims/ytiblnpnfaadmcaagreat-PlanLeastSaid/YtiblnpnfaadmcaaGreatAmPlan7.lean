import Derived.Test.YtiblnpnfaadmcaaGreatAmPlan6
import Derived.Test.YtiblnpnfaadmcaaGreatTRef10
/- Rows of whole numbers that grow, and whether two are the same. -/
set_option linter.unusedVariables false
set_option maxRecDepth 10000
set_option linter.unusedSimpArgs false
namespace Go.Proofs.YtiblnpnfaadmcaaGreat.Am
open Go

def ints (l : List Int) : List AV := l.map fun z => .int .i64 z
theorem zy81 (l : List Int) : (ints l).length = l.length := by simp [ints]
theorem zy7c (l : List Int) : ∀ c ∈ ints l, Imm 1 c := fun c hc => by
 obtain ⟨z, _, rfl⟩ := List.mem_map.1 hc
 exact imm_int
def RowI (H : Heap) (y : AV) (l : List Int) : Prop := (y = .is 0 true [] ∧ l = []) ∨ ∃ id, y = .rs 1 id 0 l.length ∧ live H id = some (ints l) ∧ l ≠ []
def FarI (y : AV) (id : Nat) : Prop := ∀ n, y ≠ .rs 1 id 0 n
theorem RowI.app {H : Heap} {y : AV} {l : List Int} {z : Int} (hr : RowI H y l) (hn : l.length ≤ 2000000) : ∃ y' H', opApp H 1 y (.is 1 true [.int .i64 z]) = some (y', H') ∧ RowI H' y' (l ++ [z]) ∧ H.length ≤ H'.length ∧ ∀ id, id < H.length → FarI y id → live H' id = live H id ∧ FarI y' id := by
 rcases hr with ⟨rfl, rfl⟩ | ⟨id, rfl, hl, hne⟩
 ·refine ⟨_, _, app_s0 (m := 1) (by simp) (by omega) (by omega) rfl, .inr ⟨H.length, rfl, zya9, by simp⟩, by simp, fun j hj hf => ⟨zya7 hj, fun n e => ?_⟩⟩
  cases e; exact absurd hj (by omega)
 ·have hid := zyae hl
  have ap := app_sr (h := H) (sz := 1) (id := id) (n := l.length) (m := 1) (f := true) (cs := [.int .i64 z]) hl (by rw [zy81]; omega) (by simp) (by omega) (by omega) rfl
  refine ⟨_, _, ap, .inr ⟨H.length, by simp, ?_, by simp⟩, by simp, fun j hj hf => ⟨?_, fun n e => ?_⟩⟩
  ·have e : ints (l ++ [z]) = ints l ++ [.int .i64 z] := by simp [ints]
   rw [e]
   have : (H.set id none).length = H.length := by simp
   rw [← this]; exact zya9
  ·have hji : j ≠ id := fun e => hf _ (by rw [e])
   rw [zya7 (by simpa using hj)]
   unfold live
   rw [List.getElem?_set_ne (Ne.symm hji)]
  ·cases e; omega
theorem RowI.frz {H : Heap} {y : AV} {l : List Int} (hr : RowI H y l) : zy5w 11 H y = some (.is l.length false (ints l)) := by
 rcases hr with ⟨rfl, rfl⟩ | ⟨id, rfl, hl, hne⟩
 ·rfl
 ·have e : zy5w 11 H (.rs 1 id 0 l.length) = (live H id).bind fun cs => if 0 + l.length * 1 ≤ cs.length then (((cs.drop 0).take (l.length * 1)).mapM (zy5w 10 H)).map (.is l.length false) else none := rfl
  rw [e, hl, Option.bind_some, if_pos (by rw [zy81]; omega), List.drop_zero, List.take_of_length_le (by rw [zy81]; omega), zy7i (zy7c l) (by omega)]
  rfl
theorem RowI.len {H : Heap} {y : AV} {l : List Int} (hr : RowI H y l) : opLen false y = some (.int .i64 (l.length : Int)) := by
 rcases hr with ⟨rfl, rfl⟩ | ⟨id, rfl, _, _⟩ <;> rfl
theorem RowI.keep {H H' : Heap} {y : AV} {l : List Int} (hr : RowI H y l) (h : ∀ id, (∃ n, y = .rs 1 id 0 n) → live H' id = live H id) : RowI H' y l := by
 rcases hr with ⟨rfl, rfl⟩ | ⟨id, rfl, hl, hne⟩
 ·exact .inl ⟨rfl, rfl⟩
 ·exact .inr ⟨id, rfl, by rw [h id ⟨_, rfl⟩]; exact hl, hne⟩
theorem RowI.frz12 {H : Heap} {y : AV} {l : List Int} (hr : RowI H y l) : zy5v H y = some (.is l.length false (ints l)) := by
 rcases hr with ⟨rfl, rfl⟩ | ⟨id, rfl, hl, hne⟩
 ·rfl
 ·have e : zy5v H (.rs 1 id 0 l.length) = (live H id).bind fun cs => if 0 + l.length * 1 ≤ cs.length then (((cs.drop 0).take (l.length * 1)).mapM (zy5w 11 H)).map (.is l.length false) else none := rfl
  rw [e, hl, Option.bind_some, if_pos (by rw [zy81]; omega), List.drop_zero, List.take_of_length_le (by rw [zy81]; omega), zy7i (zy7c l) (by omega)]
  rfl
theorem RowI.up {H : Heap} {y : AV} {l : List Int} (hr : RowI H y l) (x : Option (List AV)) : RowI (H ++ [x]) y l := by
 rcases hr with ⟨rfl, rfl⟩ | ⟨id, rfl, hl, hne⟩
 ·exact .inl ⟨rfl, rfl⟩
 ·exact .inr ⟨id, rfl, zya8 hl, hne⟩
theorem rowI_nil {H : Heap} : RowI H (.is 0 true []) [] := .inl ⟨rfl, rfl⟩
section
variable {h : Heap}
theorem zy80 {l : List Int} {i : Nat} (hi : i < l.length) : (ints l).drop i = .int .i64 l[i] :: (ints l).drop (i + 1) := by
 have h : i < (ints l).length := by rw [zy81]; exact hi
 rw [List.drop_eq_getElem_cons h]
 congr 1
 simp [ints]
theorem same_l0 {l m : List Int} {f g : Bool} (hlm : l.length = m.length) (hn : l.length ≤ 2000000) : ∀ (k i : Nat), i + k = l.length → zf0q.l0 (.is l.length f (ints l)) (.is m.length g (ints m)) (.int .i64 (i : Int)) = some (.bool (decide (l.drop i = m.drop i))) := by
 intro k
 induction k with
 | zero =>
  intro i hik
  obtain rfl : i = l.length := by omega
  rw [zf0q.l0_eq]
  have e : l.drop l.length = m.drop l.length := by rw [List.drop_length, hlm, List.drop_length]
  simp (disch := first | exact dD | fail) only [Wd, W2d, W3d, Nat.reduceAdd, Nat.reduceMul, Nat.reduceSub, decide_eq_true e]
 | succ k ih =>
  intro i hik
  have hi : i < l.length := by omega
  have hj : i < m.length := by omega
  have lk : opBin .lss (.int .i64 (i : Int)) (.int .i64 (l.length : Int)) = some (.bool true) := lssT (by omega)
  have s1 := fun f cs => sidxN (sz := 1) (f := f) (cs := cs) hi
  have s2 := fun f cs => sidxN (sz := 1) (f := f) (cs := cs) hj
  have e1 := zy80 hi
  have e2 := zy80 hj
  have ih := ih (i + 1) (by omega)
  rw [List.drop_eq_getElem_cons hi, List.drop_eq_getElem_cons hj]
  rw [zf0q.l0_eq]
  have m1 : i * 1 = i := Nat.mul_one i
  generalize l[i] = a at *
  generalize m[i] = b at *
  by_cases h : a = b
  ·subst h
   have e : decide (a :: l.drop (i + 1) = a :: m.drop (i + 1)) = decide (l.drop (i + 1) = m.drop (i + 1)) := by rw [decide_eq_decide]; simp
   rw [e, ← ih]
   simp (disch := first | exact dD | fail) only [Wd, W2d, W3d, Nat.reduceAdd, Nat.reduceMul, Nat.reduceSub, lk, s1, s2, m1, e1, e2, neqF9]
  ·have e : decide (a :: l.drop (i + 1) = b :: m.drop (i + 1)) = false := decide_eq_false (by simp [h])
   rw [e]
   have nq : opBin .neq (.int .i64 a) (.int .i64 b) = some (.bool true) := by rw [zy12]; exact congrArg (fun b => some (AV.bool b)) (decide_eq_true h)
   simp (disch := first | exact dD | fail) only [Wd, W2d, W3d, Nat.reduceAdd, Nat.reduceMul, Nat.reduceSub, lk, s1, s2, m1, e1, e2, nq]
theorem same_cv {l m : List Int} {f g : Bool} (hn : l.length ≤ 2000000) (hm : m.length ≤ 2000000) : cv gp fid.zf0q [.is l.length f (ints l), .is m.length g (ints m)] = some (.bool (decide (l = m))) := by
 rw [zf0q.eq]
 unfold zf0q.f
 by_cases h : l.length = m.length
 ·have g := same_l0 (f := f) (g := g) h hn l.length 0 (by omega)
  rw [List.drop_zero, List.drop_zero] at g
  have nq : opBin .neq (.int .i64 (l.length : Int)) (.int .i64 (m.length : Int)) = some (.bool false) := by rw [zy12]; exact congrArg (fun b => some (AV.bool b)) (decide_eq_false (by omega))
  simp (disch := first | exact dD | fail) only [Wd, W2d, W3d, Nat.reduceAdd, Nat.reduceMul, Nat.reduceSub, nq]
  exact g
 ·have nq : opBin .neq (.int .i64 (l.length : Int)) (.int .i64 (m.length : Int)) = some (.bool true) := by rw [zy12]; exact congrArg (fun b => some (AV.bool b)) (decide_eq_true (by omega))
  have e : decide (l = m) = false := decide_eq_false fun e => h (by rw [e])
  rw [e]
  simp (disch := first | exact dD | fail) only [Wd, W2d, W3d, Nat.reduceAdd, Nat.reduceMul, Nat.reduceSub, nq]
theorem k_sameT {l m : List Int} (hn : l.length ≤ 2000000) (hm : m.length ≤ 2000000) : byVal (callW gp) h fid.zf0q [.is l.length false (ints l), .is m.length true (ints m)] = some (.bool (decide (l = m))) := by
 refine zy1l ?_ (same_cv (f := false) (g := false) hn hm) rfl
 have e : ∀ f, zy5v h (.is l.length f (ints l)) = some (.is l.length false (ints l)) := fun f => by
  show ((ints l).mapM (zy5w 11 h)).map (AV.is l.length false) = _
  rw [zy7i (zy7c l) (by omega)]
  rfl
 have e' : ∀ f, zy5v h (.is m.length f (ints m)) = some (.is m.length false (ints m)) := fun f => by
  show ((ints m).mapM (zy5w 11 h)).map (AV.is m.length false) = _
  rw [zy7i (zy7c m) (by omega)]
  rfl
 simp only [List.mapM_cons, List.mapM_nil, e, e']
 rfl
end
def atL (xs : List Sg) (v : Int) : Nat → Nat → List Int
 | 0, _ => []
 | m + 1, i => (if (xs.getD i ⟨0, 0, false⟩).a = v ∨ (xs.getD i ⟨0, 0, false⟩).b = v then [(i : Int)] else []) ++ atL xs v m (i + 1)
theorem bsl1i {z : Int} : zycy 1 1 [.int .i64 0] [(0, .int .i64 z)] = some (.is 1 true [.int .i64 z]) := Eq.trans rfl rfl
section
variable {h : Heap} {xs : List Sg} {v : Int}
theorem sgs_at {i : Nat} (hi : i < xs.length) : (xs.flatMap sgc).drop (i * 3) = .int .i64 (xs.getD i ⟨0, 0, false⟩).a :: .int .i64 (xs.getD i ⟨0, 0, false⟩).b :: .bool (xs.getD i ⟨0, 0, false⟩).f :: (xs.drop (i + 1)).flatMap sgc := by
 have e : xs.getD i ⟨0, 0, false⟩ = xs[i] := by simp [List.getD, List.getElem?_eq_getElem hi]
 rw [e, zy4f zyg0, List.drop_eq_getElem_cons hi, List.flatMap_cons]; rfl
set_option maxHeartbeats 4000000 in
theorem pat_l0 (hn : xs.length ≤ 2000000) {f : Bool} : ∀ (m i : Nat) (H : Heap) (y : AV) (l : List Int), i + m = xs.length → l.length ≤ i → RowI H y l → plan_At.l0 (.int .i64 v) y (.is xs.length f (xs.flatMap sgc)) (.int .i64 (xs.length : Int)) (.int .i64 (i : Int)) H = some (.is (l ++ atL xs v m i).length false (ints (l ++ atL xs v m i))) := by
 intro m
 induction m with
 | zero =>
  intro i H y l him hl hr
  obtain rfl : i = xs.length := by omega
  have lk : opBin .lss (.int .i64 (xs.length : Int)) (.int .i64 (xs.length : Int)) = some (.bool false) := lssF (by omega)
  rw [plan_At.l0_eq]
  simp (disch := first | exact dD | fail) only [Wd, W2d, W3d, Nat.reduceAdd, Nat.reduceMul, Nat.reduceSub, lk]
  unfold atL
  rw [List.append_nil]
  exact hr.frz12
 | succ m ih =>
  intro i H y l him hl hr
  have hi : i < xs.length := by omega
  have lk : opBin .lss (.int .i64 (i : Int)) (.int .i64 (xs.length : Int)) = some (.bool true) := lssT (by omega)
  have sx := sidxN (sz := 3) (f := f) (cs := xs.flatMap sgc) hi
  have kh := fun h => k_has (h := h) (s := xs.getD i ⟨0, 0, false⟩) (v := v)
  have rx : zyem ((xs.flatMap sgc).drop (i * 3)) (some 3) = some (.agg (sgc (xs.getD i ⟨0, 0, false⟩))) := by rw [sgs_at hi]; exact Eq.trans rfl rfl
  unfold atL
  generalize xs.getD i ⟨0, 0, false⟩ = s at *
  have s1' : zydm (H ++ [some [.int .i64 0, .int .i64 0, .bool false]]) 3 (.rp H.length 0) (.agg (sgc s)) = some (H ++ [some (sgc s)]) := zygj (h := H) (z := [.int .i64 0, .int .i64 0, .bool false]) (v := sgc s) (n := 3) rfl ⟨rfl, rfl⟩
  have gq : live (H ++ [some (sgc s)]) H.length = some (sgc s) := zya9
  have rq : zyem (sgc s) (some 3) = some (.agg (sgc s)) := Eq.trans rfl rfl
  rw [plan_At.l0_eq]
  by_cases hh : s.a = v ∨ s.b = v
  ·rw [if_pos hh]
   have e : (decide (s.a = v) || decide (s.b = v)) = true := by simpa using hh
   rw [e] at kh
   obtain ⟨y', H', ap, hr', _, _⟩ := (hr.up (some (sgc s))).app (z := (i : Int)) (by omega)
   have g := ih (i + 1) H' y' (l ++ [(i : Int)]) (by omega) (by simp; omega) hr'
   rw [List.append_assoc] at g
   simp (disch := first | exact dD | fail) only [Wd, W2d, W3d, Nat.reduceAdd, Nat.reduceMul, Nat.reduceSub, lk, sx, rx, s1', gq, rq, kh, bsl1i, ap]
   exact g
  ·rw [if_neg hh, List.nil_append]
   have e : (decide (s.a = v) || decide (s.b = v)) = false := by simpa using hh
   rw [e] at kh
   have g := ih (i + 1) (H ++ [some (sgc s)]) y l (by omega) (by omega) (hr.up _)
   simp (disch := first | exact dD | fail) only [Wd, W2d, W3d, Nat.reduceAdd, Nat.reduceMul, Nat.reduceSub, lk, sx, rx, s1', gq, rq, kh]
   exact g
theorem pat_cv (hn : xs.length ≤ 2000000) {f : Bool} : cv gp fid.plan_At [.is xs.length f (xs.flatMap sgc), .int .i64 v] = some (.is (atL xs v xs.length 0).length false (ints (atL xs v xs.length 0))) := by
 have g := pat_l0 (f := f) (v := v) hn xs.length 0 [] (.is 0 true []) [] (by omega) (by simp) rowI_nil
 rw [plan_At.eq]
 unfold plan_At.f
 simp (disch := first | exact dD | fail) only [Wd, W2d, W3d, Nat.reduceAdd, Nat.reduceMul, Nat.reduceSub]
 exact g
theorem k_pat (hn : xs.length ≤ 2000000) : byVal (callW gp) h fid.plan_At [.is xs.length false (xs.flatMap sgc), .int .i64 v] = some (.is (atL xs v xs.length 0).length false (ints (atL xs v xs.length 0))) := zy1m (zy74 zy7f (imm_int.mono (by omega))) (pat_cv hn)
end
end Go.Proofs.YtiblnpnfaadmcaaGreat.Am
