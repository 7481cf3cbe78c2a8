import Derived.Test.YtiblnpnfaadmcaaGreatAmPlan8
/- Section 09: small points, and the answers that the document gives. -/
set_option linter.unusedVariables false
set_option maxRecDepth 10000
set_option linter.unusedSimpArgs false
namespace Go.Proofs.YtiblnpnfaadmcaaGreat.Am
open Go

def sh1 (t : RT) : Prop := t.m.length ≤ 30 ∧ t.d.length ≤ 30
instance (t : RT) : Decidable (sh1 t) := by unfold sh1; infer_instance
def sh2 (p : PT) : Prop := sh1 p.1 ∧ sh1 p.2
instance (p : PT) : Decidable (sh2 p) := by unfold sh2; infer_instance
def fewP (l : List PT) : Prop := ∀ p ∈ l, sh2 p
instance (l : List PT) : Decidable (fewP l) := by unfold fewP; infer_instance
theorem pt_rat {p : PT} (hp : p.ok) (h : sh2 p) (ha : askc p = 0) : ∃ x y, p = (rt x, rt y) ∧ Rz x 30 ∧ Rz y 30 := by
 obtain ⟨⟨q1, q2⟩, ⟨q3, q4⟩⟩ := h
 rw [zy0s ⟨by omega, by omega⟩ ⟨by omega, by omega⟩] at ha
 exact PT.ratz hp ha ⟨q1, q2⟩ ⟨q3, q4⟩
theorem zy1r {h : Heap} {f : Nat} {args xs : List AV} {r : Option AV} (ha : args.mapM (zy5v h) = some xs) (hn : args.all noRef = true) (hx : ∀ x ∈ xs, Imm 12 x) (hb : byVal (callW gp) h f xs = r) : byVal (callW gp) h f args = r := by
 rw [zy1k] at hb ⊢
 have h1 : xs.mapM (zy5v h) = some xs := zy7i hx (Nat.le_refl _) h
 have h2 : xs.all noRef = true := zy78 hx (Nat.le_refl _)
 rw [h1] at hb
 rw [ha]
 simp only [Option.bind_some, hn, h2, Bool.true_or, if_true] at hb ⊢
 exact hb
section
variable {h : Heap}
theorem leqT {x y : Int} (h : x ≤ y) : opBin .leq (.int .i64 x) (.int .i64 y) = some (.bool true) := by
 have := @zy10 .i64 x y
 rw [this]
 exact congrArg (fun b => some (AV.bool b)) (decide_eq_true h)
theorem leqF {x y : Int} (h : ¬ x ≤ y) : opBin .leq (.int .i64 x) (.int .i64 y) = some (.bool false) := by
 have := @zy10 .i64 x y
 rw [this]
 exact congrArg (fun b => some (AV.bool b)) (decide_eq_false h)
set_option maxHeartbeats 4000000 in
theorem c_short9 {t : PT} : byVal (callW gp) h fid.zf0v [.agg (ptc t)] = some (.bool (decide (sh2 t))) := zy1m (zy7l zy7n) (by
 obtain ⟨⟨s1, m1, d1⟩, ⟨s2, m2, d2⟩⟩ := t
 rw [zf0v.eq]
 unfold zf0v.f ptc rtc
 have fa : ∀ k id off, zyd1 k (.rp id off) = some (.rp id (off + k)) := fun _ _ _ => rfl
 by_cases h1 : m1.length ≤ 30
 rotate_left
 ·have l1 := leqF (x := (m1.length : Int)) (y := 30) (by omega)
  rw [decide_eq_false (fun h : sh2 _ => h1 h.1.1)]
  simp (disch := first | exact dD | fail) only [Wd, W2d, W3d, Nat.reduceAdd, Nat.reduceMul, Nat.reduceSub, l1, fa]
 by_cases h2 : d1.length ≤ 30
 rotate_left
 ·have l1 := leqT (x := (m1.length : Int)) (y := 30) (by omega)
  have l2 := leqF (x := (d1.length : Int)) (y := 30) (by omega)
  rw [decide_eq_false (fun h : sh2 _ => h2 h.1.2)]
  simp (disch := first | exact dD | fail) only [Wd, W2d, W3d, Nat.reduceAdd, Nat.reduceMul, Nat.reduceSub, l1, l2, fa]
 by_cases h3 : m2.length ≤ 30
 rotate_left
 ·have l1 := leqT (x := (m1.length : Int)) (y := 30) (by omega)
  have l2 := leqT (x := (d1.length : Int)) (y := 30) (by omega)
  have l3 := leqF (x := (m2.length : Int)) (y := 30) (by omega)
  rw [decide_eq_false (fun h : sh2 _ => h3 h.2.1)]
  simp (disch := first | exact dD | fail) only [Wd, W2d, W3d, Nat.reduceAdd, Nat.reduceMul, Nat.reduceSub, l1, l2, l3, fa]
 have l1 := leqT (x := (m1.length : Int)) (y := 30) (by omega)
 have l2 := leqT (x := (d1.length : Int)) (y := 30) (by omega)
 have l3 := leqT (x := (m2.length : Int)) (y := 30) (by omega)
 by_cases h4 : d2.length ≤ 30
 ·have l4 := leqT (x := (d2.length : Int)) (y := 30) (by omega)
  rw [decide_eq_true (show sh2 _ from ⟨⟨h1, h2⟩, h3, h4⟩)]
  simp (disch := first | exact dD | fail) only [Wd, W2d, W3d, Nat.reduceAdd, Nat.reduceMul, Nat.reduceSub, l1, l2, l3, l4, fa]
 ·have l4 := leqF (x := (d2.length : Int)) (y := 30) (by omega)
  rw [decide_eq_false (fun h : sh2 _ => h4 h.2.2)]
  simp (disch := first | exact dD | fail) only [Wd, W2d, W3d, Nat.reduceAdd, Nat.reduceMul, Nat.reduceSub, l1, l2, l3, l4, fa])
theorem few_cons {p : PT} {l : List PT} : fewP (p :: l) ↔ sh2 p ∧ fewP l := ⟨fun h => ⟨h _ (List.mem_cons_self ..), fun q hq => h q (List.mem_cons_of_mem _ hq)⟩, fun h q hq => by
 rcases List.mem_cons.1 hq with rfl | hq
 ·exact h.1
 ·exact h.2 q hq⟩
set_option maxHeartbeats 4000000 in
theorem small_l0 {xs : List PT} {f : Bool} (hn : xs.length ≤ 1000) : ∀ (k i : Nat), i + k = xs.length → zf09.l0 (.is xs.length f (xs.flatMap ptc)) (.int .i64 (i : Nat)) = some (.bool (decide (fewP (xs.drop i)))) := by
 intro k
 induction k with
 | zero =>
  intro i hik
  rw [zf09.l0_eq]
  have lk : opBin .lss (.int .i64 (i : Int)) (.int .i64 (xs.length : Int)) = some (.bool false) := lssF (by omega)
  simp (disch := first | exact dD | fail) only [Wd, W2d, W3d, Nat.reduceAdd, Nat.reduceMul, Nat.reduceSub, lk]
  rw [List.drop_of_length_le (by omega)]
  exact congrArg (fun b => some (AV.bool b)) (decide_eq_true (fun p hp => by cases hp)).symm
 | succ k ih =>
  intro i hik
  rw [zf09.l0_eq]
  have hi : i < xs.length := by omega
  have lk : opBin .lss (.int .i64 (i : Int)) (.int .i64 (xs.length : Int)) = some (.bool true) := lssT (by omega)
  have sx := sidxN (sz := 6) (f := f) (cs := xs.flatMap ptc) hi
  have rx : zyem ((xs.flatMap ptc).drop (i * 6)) (some 6) = some (.agg (ptc xs[i])) := by
   rw [zy4f zye8, List.drop_eq_getElem_cons hi, List.flatMap_cons]; rfl
  have c1 := fun h => c_short9 (h := h) (t := xs[i])
  rw [List.drop_eq_getElem_cons hi]
  have ih := ih (i + 1) (by omega)
  generalize xs[i] = p at *
  by_cases q1 : sh2 p
  ·rw [decide_eq_true q1] at c1
   have e : decide (fewP (p :: xs.drop (i + 1))) = decide (fewP (xs.drop (i + 1))) := decide_eq_decide.2 ⟨fun h => (few_cons.1 h).2, fun h => few_cons.2 ⟨q1, h⟩⟩
   rw [e, ← ih]
   simp (disch := first | exact dD | fail) only [Wd, W2d, W3d, Nat.reduceAdd, Nat.reduceMul, Nat.reduceSub, lk, sx, rx, c1, notT, notF]
  ·rw [decide_eq_false q1] at c1
   rw [decide_eq_false (fun h => q1 (few_cons.1 h).1)]
   simp (disch := first | exact dD | fail) only [Wd, W2d, W3d, Nat.reduceAdd, Nat.reduceMul, Nat.reduceSub, lk, sx, rx, c1, notT, notF]
theorem gtrT {a b : Int} (h : b < a) : opBin .gtr (.int .i64 a) (.int .i64 b) = some (.bool true) := by
 have := zy0z (k := .i64) (x := a) (y := b)
 rw [this]
 exact congrArg (fun b => some (AV.bool b)) (decide_eq_true (by omega))
def smlP (xs : List PT) (m : Nat) : Prop := xs.length ≤ m ∧ fewP xs
instance (xs : List PT) (m : Nat) : Decidable (smlP xs m) := by unfold smlP; infer_instance
theorem small_cv {xs : List PT} {f : Bool} {m : Nat} (hm : m ≤ 1000) : cv gp fid.zf09 [.is xs.length f (xs.flatMap ptc), .int .i64 (m : Int)] = some (.bool (decide (smlP xs m))) := by
 rw [zf09.eq]
 unfold zf09.f
 by_cases h : xs.length ≤ m
 ·have c1 := gtrF (a := (xs.length : Int)) (b := (m : Int)) (by omega)
  have g := small_l0 (f := f) (show xs.length ≤ 1000 by omega) xs.length 0 (by omega)
  rw [List.drop_zero] at g
  have e : decide (smlP xs m) = decide (fewP xs) := decide_eq_decide.2 ⟨fun h => h.2, fun q => ⟨h, q⟩⟩
  rw [e, ← g]
  simp (disch := first | exact dD | fail) only [Wd, W2d, W3d, Nat.reduceAdd, Nat.reduceMul, Nat.reduceSub, c1]
  rfl
 ·have c1 := gtrT (a := (xs.length : Int)) (b := (m : Int)) (by omega)
  rw [decide_eq_false (fun q : smlP xs m => h q.1)]
  simp (disch := first | exact dD | fail) only [Wd, W2d, W3d, Nat.reduceAdd, Nat.reduceMul, Nat.reduceSub, c1]
theorem zy2a {xs : List PT} {H : Heap} {x : AV} {m : Nat} (hm : m ≤ 1000) (hx : zy5v H x = some (.is xs.length false (xs.flatMap ptc))) : byVal (callW gp) H fid.zf09 [x, .int .i64 (m : Int)] = some (.bool (decide (smlP xs m))) :=
 zy1l (mapM2 hx (Eq.trans rfl rfl)) (small_cv hm) rfl
theorem zy65 {H : Heap} {xs : List PT} {n : Nat} {f : Bool} : zy5v H (.is n f (xs.flatMap ptc)) = some (.is n false (xs.flatMap ptc)) := by
 show zy5w 12 H _ = _
 show ((xs.flatMap ptc).mapM (zy5w 11 H)).map (AV.is n false) = _
 rw [zy7i (zy79 zy7o xs) (by omega)]
 rfl
theorem zy66 {H : Heap} {xs : List Sg} {n : Nat} {f : Bool} : zy5v H (.is n f (xs.flatMap sgc)) = some (.is n false (xs.flatMap sgc)) := by
 show zy5w 12 H _ = _
 show ((xs.flatMap sgc).mapM (zy5w 11 H)).map (AV.is n false) = _
 rw [zy7i (zy79 zy7r xs) (by omega)]
 rfl
theorem nr_isP {xs : List PT} {n : Nat} {f : Bool} : noRef (.is n f (xs.flatMap ptc)) = true := zy78 (n := 11) (zy79 zy7o xs) (by omega)
theorem nr_isS {xs : List Sg} {n : Nat} {f : Bool} : noRef (.is n f (xs.flatMap sgc)) = true := zy78 (n := 11) (zy79 zy7r xs) (by omega)
end
end Go.Proofs.YtiblnpnfaadmcaaGreat.Am
