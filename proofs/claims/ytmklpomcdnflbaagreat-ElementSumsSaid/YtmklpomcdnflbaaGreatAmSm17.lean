import Derived.Test.YtmklpomcdnflbaaGreatAmElem3
import Derived.Test.YtmklpomcdnflbaaGreatAmV
import Derived.Test.YtmklpomcdnflbaaGreatTLaw17
import Derived.Test.YtmklpomcdnflbaaGreatAmDead
/- The laws of section 17: what they begin with. -/
set_option linter.unusedVariables false
set_option maxRecDepth 10000
set_option linter.unusedSimpArgs false
namespace Go.Proofs.YtmklpomcdnflbaaGreat.Am
open Go

section
variable {P : Program}
theorem chunk {α : Type} {f : α → List AV} {c : Nat} {ok : α → Prop} (hf : ∀ x, (f x).length = c) : ∀ (n : Nat) (xs : List AV), xs.length = n * c → (∀ i, i < n → ∃ x, (xs.drop (i * c)).take c = f x ∧ ok x) → ∃ l : List α, xs = l.flatMap f ∧ l.length = n ∧ ∀ x ∈ l, ok x
  | 0, xs, hl, _ => by
    have : xs = [] := List.length_eq_zero_iff.1 (by simpa using hl)
    subst this
    exact ⟨[], rfl, rfl, by simp⟩
  | n + 1, xs, hl, h => by
    obtain ⟨x, hx, ox⟩ := h 0 (by omega)
    rw [Nat.zero_mul, List.drop_zero] at hx
    rw [Nat.add_mul, Nat.one_mul] at hl
    obtain ⟨l, h1, h2, h3⟩ := chunk hf n (xs.drop c) (by rw [List.length_drop]; omega) fun i hi => by
      have := h (i + 1) (by omega)
      rwa [Nat.add_mul, Nat.one_mul, Nat.add_comm, ← List.drop_drop] at this
    refine ⟨x :: l, ?_, by simp [h2], ?_⟩
    · rw [List.flatMap_cons, ← hx, ← h1, List.take_append_drop]
    · intro y hy
      rcases List.mem_cons.1 hy with rfl | hy
      · exact ox
      · exact h3 y hy
theorem arr_in {k n : Nat} {t e : TypeId} {v : AV} {α : Type} {f : α → List AV} {ok : α → Prop} {c : Nat} (hag : isAggT P t = true) (hu : P.underlying t = some (.array n e)) (hc : P.cellsOf e = c) (hl : P.cellsOf t = n * c) (hf : ∀ x, (f x).length = c) (he : ∀ cs, Dat P k e cs → ∃ x, cs = f x ∧ ok x) (h : DatV P (k + 1) t v) :
    ∃ l : List α, v = .agg (l.flatMap f) ∧ l.length = n ∧ ∀ x ∈ l, ok x := by
  obtain ⟨cs, rfl, hd⟩ := agg_in hag h
  unfold Dat at hd
  rw [hu] at hd
  obtain ⟨h1, h2⟩ := hd
  rw [hc] at h2
  rw [hl] at h1
  obtain ⟨l, g1, g2, g3⟩ := chunk hf n cs h1 fun i hi => he _ (h2 i hi)
  exact ⟨l, by rw [g1], g2, g3⟩
theorem p3_in {t e : TypeId} {v : AV} (hag : isAggT P t = true) (hu : P.underlying t = some (.array 3 e)) (he : isPtT P e = true) (hl : P.cellsOf t = 18) (h : DatV P 9 t v) : ∃ p : T3, v = .agg (t3c p) ∧ p.ok := by
  obtain ⟨l, rfl, hn, hok⟩ := arr_in (k := 8) (f := ptc) (ok := PT.ok) hag hu (cells_of_T.2.2.2.2.1 he) hl ptc_len (fun cs h => pt_cells he h) h
  match l, hn with
  | [a, b, c], _ => exact ⟨(a, b, c), by simp [t3c], hok a (by simp), hok b (by simp), hok c (by simp)⟩
theorem r3_in {t e : TypeId} {v : AV} (hag : isAggT P t = true) (hu : P.underlying t = some (.array 3 e)) (he : isRatT P e = true) (hl : P.cellsOf t = 9) (h : DatV P 9 t v) : ∃ p : U3, v = .agg (u3c p) ∧ p.ok := by
  obtain ⟨l, rfl, hn, hok⟩ := arr_in (k := 8) (f := rtc) (ok := RT.ok) hag hu (cells_of_T.2.2.2.1 he) hl rtc_len (fun cs h => rat_cells he h) h
  match l, hn with
  | [a, b, c], _ => exact ⟨(a, b, c), by simp [u3c], hok a (by simp), hok b (by simp), hok c (by simp)⟩
/-- Four points. -/
abbrev T4 := PT × PT × PT × PT
def T4.ok (t : T4) : Prop := t.1.ok ∧ t.2.1.ok ∧ t.2.2.1.ok ∧ t.2.2.2.ok
def t4c (t : T4) : List AV := ptc t.1 ++ ptc t.2.1 ++ ptc t.2.2.1 ++ ptc t.2.2.2
theorem p4_in {t e : TypeId} {v : AV} (hag : isAggT P t = true) (hu : P.underlying t = some (.array 4 e)) (he : isPtT P e = true) (hl : P.cellsOf t = 24) (h : DatV P 9 t v) : ∃ p : T4, v = .agg (t4c p) ∧ p.ok := by
  obtain ⟨l, rfl, hn, hok⟩ := arr_in (k := 8) (f := ptc) (ok := PT.ok) hag hu (cells_of_T.2.2.2.2.1 he) hl ptc_len (fun cs h => pt_cells he h) h
  match l, hn with
  | [a, b, c, d], _ => exact ⟨(a, b, c, d), by simp [t4c], hok a (by simp), hok b (by simp), hok c (by simp), hok d (by simp)⟩
end

/-- Few bytes. -/
def sh1 (t : RT) : Prop := t.m.length ≤ 30 ∧ t.d.length ≤ 30
instance (t : RT) : Decidable (sh1 t) := by unfold sh1; infer_instance
def sh2 (p : PT) : Prop := sh1 p.1 ∧ sh1 p.2
instance (p : PT) : Decidable (sh2 p) := by unfold sh2; infer_instance
def fewP (l : List PT) : Prop := ∀ p ∈ l, sh2 p
instance (l : List PT) : Decidable (fewP l) := by unfold fewP; infer_instance
theorem pt_rat {p : PT} (hp : p.ok) (h : sh2 p) (ha : askc p = 0) : ∃ x y, p = (rt x, rt y) ∧ Rz x 30 ∧ Rz y 30 := by
  obtain ⟨⟨q1, q2⟩, ⟨q3, q4⟩⟩ := h
  rw [askc_small ⟨by omega, by omega⟩ ⟨by omega, by omega⟩] at ha
  exact PT.ratz hp ha ⟨q1, q2⟩ ⟨q3, q4⟩

section
variable {h : Heap}
theorem c_short17 {t : RT} : byVal (callW gp) h fid.gussetlaw17_short [.agg (rtc t)] = some (.bool (decide (sh1 t))) := byVal_imm (imm_L1 imm_r3) (by
  rw [gussetlaw17_short.eq]
  unfold gussetlaw17_short.f rtc
  by_cases h1 : t.m.length ≤ 30
  · by_cases h2 : t.d.length ≤ 30
    · rw [decide_eq_true (show sh1 t from ⟨h1, h2⟩)]
      have e : decide ((t.d.length : Int) ≤ 30) = true := decide_eq_true (by omega)
      simp (disch := first | exact dD | fail) only [Wd, W2d, W3d, Nat.reduceAdd, Nat.reduceMul, Nat.reduceSub, e]
    · rw [decide_eq_false (show ¬ sh1 t from fun h => h2 h.2)]
      have e : decide ((t.d.length : Int) ≤ 30) = false := decide_eq_false (by omega)
      simp (disch := first | exact dD | fail) only [Wd, W2d, W3d, Nat.reduceAdd, Nat.reduceMul, Nat.reduceSub, e]
  · rw [decide_eq_false (show ¬ sh1 t from fun h => h1 h.1)]
    simp (disch := first | exact dD | fail) only [Wd, W2d, W3d, Nat.reduceAdd, Nat.reduceMul, Nat.reduceSub])
theorem few_l0 {xs : List PT} (hn : xs.length ≤ 1000) : ∀ (k i : Nat), i + k = xs.length → gussetlaw17_few.l0 (.is xs.length false (xs.flatMap ptc)) (.int .i64 (i : Nat)) = some (.bool (decide (fewP (xs.drop i)))) := by
  intro k
  induction k with
  | zero =>
    intro i hik
    rw [gussetlaw17_few.l0_eq]
    simp (disch := first | exact dD | fail) only [Wd, W2d, W3d, Nat.reduceAdd, Nat.reduceMul, Nat.reduceSub]
    rw [List.drop_of_length_le (by omega)]
    exact congrArg (fun b => some (AV.bool b)) (decide_eq_true (fun p hp => by cases hp)).symm
  | succ k ih =>
    intro i hik
    rw [gussetlaw17_few.l0_eq]
    have hi : i < xs.length := by omega
    have e : (xs.flatMap ptc).drop (i * 6) = .bool xs[i].1.s :: str xs[i].1.m :: str xs[i].1.d :: .bool xs[i].2.s :: str xs[i].2.m :: str xs[i].2.d :: (xs.drop (i + 1)).flatMap ptc := by
      rw [drop_flatMap ptc_len, List.drop_eq_getElem_cons hi, List.flatMap_cons]; rfl
    have c1 := fun h => c_short17 (h := h) (t := xs[i].1)
    have c2 := fun h => c_short17 (h := h) (t := xs[i].2)
    unfold rtc at c1 c2
    have ed : fewP (xs.drop i) ↔ sh2 xs[i] ∧ fewP (xs.drop (i + 1)) := by
      rw [List.drop_eq_getElem_cons hi]
      exact ⟨fun h => ⟨h _ (List.mem_cons_self ..), fun p hp => h p (List.mem_cons_of_mem _ hp)⟩, fun h p hp => by
        rcases List.mem_cons.1 hp with rfl | hp
        · exact h.1
        · exact h.2 p hp⟩
    by_cases q1 : sh1 xs[i].1
    rotate_left
    · rw [decide_eq_false q1] at c1
      have q : ¬ fewP (xs.drop i) := fun h => q1 (ed.1 h).1.1
      rw [decide_eq_false q]
      simp (disch := first | exact dD | fail) only [Wd, W2d, W3d, Nat.reduceAdd, Nat.reduceMul, Nat.reduceSub, e, c1, c2]
    by_cases q2 : sh1 xs[i].2
    rotate_left
    · rw [decide_eq_false q2] at c2
      rw [decide_eq_true q1] at c1
      have q : ¬ fewP (xs.drop i) := fun h => q2 (ed.1 h).1.2
      rw [decide_eq_false q]
      simp (disch := first | exact dD | fail) only [Wd, W2d, W3d, Nat.reduceAdd, Nat.reduceMul, Nat.reduceSub, e, c1, c2]
    rw [decide_eq_true q1] at c1
    rw [decide_eq_true q2] at c2
    have ed' : decide (fewP (xs.drop i)) = decide (fewP (xs.drop (i + 1))) := decide_eq_decide.2 ⟨fun h => (ed.1 h).2, fun h => ed.2 ⟨⟨q1, q2⟩, h⟩⟩
    rw [ed', ← ih (i + 1) (by omega)]
    simp (disch := first | exact dD | fail) only [Wd, W2d, W3d, Nat.reduceAdd, Nat.reduceMul, Nat.reduceSub, e, c1, c2]
theorem c_few {xs : List PT} {H : Heap} {x : AV} (hn : xs.length ≤ 1000) (hx : freeze H x = some (.is xs.length false (xs.flatMap ptc))) : byVal (callW gp) H fid.gussetlaw17_few [x] = some (.bool (decide (fewP xs))) := by
  have hc : cv gp fid.gussetlaw17_few [.is xs.length false (xs.flatMap ptc)] = some (.bool (decide (fewP xs))) := by
    rw [gussetlaw17_few.eq]
    unfold gussetlaw17_few.f
    exact few_l0 hn xs.length 0 (by omega)
  exact byVal_flat (mapM1 hx) hc rfl
theorem c_asked17 {xs : List PT} {H : Heap} {x : AV} (hb : ∀ t ∈ xs, t.ok) (hn : xs.length ≤ 1000) (hx : freeze H x = some (.is xs.length false (xs.flatMap ptc))) : byVal (callW gp) H fid.gussetref05_Asked [x] = some (.int .i64 (firstE (xs.map askc))) := by
  have hc : cv gp fid.gussetref05_Asked [.is xs.length false (xs.flatMap ptc)] = some (.int .i64 (firstE (xs.map askc))) := by
    rw [gussetref05_Asked.eq]
    unfold gussetref05_Asked.f
    exact asked5_l0 hb (by omega) xs.length 0 (by omega)
  exact byVal_flat (mapM1 hx) hc rfl
theorem c_at17 {x y : Int} (h1 : -9223372036854775808 ≤ x) (h2 : x ≤ 9223372036854775807) (h3 : -9223372036854775808 ≤ y) (h4 : y ≤ 9223372036854775807) : byVal (callW gp) h fid.gussetlaw17_at [.int .i64 x, .int .i64 y] = some (pa (x : Rat) (y : Rat)) := byVal_imm (imm_L2 (imm_int.mono (by omega)) (imm_int.mono (by omega))) (by
  rw [gussetlaw17_at.eq]
  unfold gussetlaw17_at.f
  simp (disch := first | exact dD | fail) only [Wd, W2d, W3d, Nat.reduceAdd, Nat.reduceMul, Nat.reduceSub, k_3of])
theorem live17_by : byVal (callW gp) h fid.gussetlaw17_live [] = some (.bool true) := byVal_imm (fun _ h => by cases h) (by
  rw [gussetlaw17_live.eq]
  unfold gussetlaw17_live.f
  have z : ∀ z : Int, -9223372036854775808 ≤ z → z ≤ 9223372036854775807 → Rz (z : Rat) 100 := fun z h1 h2 => (Rz_int h1 h2).mono (by omega)
  have z0 := z 0 (by omega) (by omega)
  have z1 := z 1 (by omega) (by omega)
  have z2 := z 2 (by omega) (by omega)
  have z3 := z 3 (by omega) (by omega)
  have z5 := z 5 (by omega) (by omega)
  have a1 : area ((0 : Int) : Rat) ((0 : Int) : Rat) ((1 : Int) : Rat) ((0 : Int) : Rat) ((0 : Int) : Rat) ((1 : Int) : Rat) ≠ 0 := by decide +kernel
  have a2 : area ((0 : Int) : Rat) ((0 : Int) : Rat) ((1 : Int) : Rat) ((0 : Int) : Rat) ((2 : Int) : Rat) ((0 : Int) : Rat) = 0 := by decide +kernel
  have k1 := fun h => k_stiff (h := h) z0 z0 z1 z0 z0 z1 a1
  have k2 := fun h => k_stiff0 (h := h) z0 z0 z1 z0 z2 z0 a2
  have k3 := fun h => k_slope (h := h) z0 z0 z1 z0 z0 z1 (z0.mono (m := 200) (by omega)) (z3.mono (m := 200) (by omega)) (z5.mono (m := 200) (by omega)) a1
  have v1 : slX ((0 : Int) : Rat) ((0 : Int) : Rat) ((1 : Int) : Rat) ((0 : Int) : Rat) ((0 : Int) : Rat) ((1 : Int) : Rat) ((0 : Int) : Rat) ((3 : Int) : Rat) ((5 : Int) : Rat) = ((3 : Int) : Rat) := by decide +kernel
  have v2 : slY ((0 : Int) : Rat) ((0 : Int) : Rat) ((1 : Int) : Rat) ((0 : Int) : Rat) ((0 : Int) : Rat) ((1 : Int) : Rat) ((0 : Int) : Rat) ((3 : Int) : Rat) ((5 : Int) : Rat) = ((5 : Int) : Rat) := by decide +kernel
  rw [v1, v2] at k3
  unfold stiffC at k1
  have e00 : stQ (area ((0 : Int) : Rat) ((0 : Int) : Rat) ((1 : Int) : Rat) ((0 : Int) : Rat) ((0 : Int) : Rat) ((1 : Int) : Rat)) ((((0 : Int) : Rat) - ((1 : Int) : Rat)) * (((0 : Int) : Rat) - ((1 : Int) : Rat)) + (((1 : Int) : Rat) - ((0 : Int) : Rat)) * (((1 : Int) : Rat) - ((0 : Int) : Rat))) = ((1 : Int) : Rat) := by decide +kernel
  have e01 : stQ (area ((0 : Int) : Rat) ((0 : Int) : Rat) ((1 : Int) : Rat) ((0 : Int) : Rat) ((0 : Int) : Rat) ((1 : Int) : Rat)) ((((0 : Int) : Rat) - ((1 : Int) : Rat)) * (((0 : Int) : Rat) - ((0 : Int) : Rat)) + (((1 : Int) : Rat) - ((0 : Int) : Rat)) * (((0 : Int) : Rat) - ((1 : Int) : Rat))) = (Rat.divInt (-1) 2) := by decide +kernel
  have e02 : stQ (area ((0 : Int) : Rat) ((0 : Int) : Rat) ((1 : Int) : Rat) ((0 : Int) : Rat) ((0 : Int) : Rat) ((1 : Int) : Rat)) ((((0 : Int) : Rat) - ((1 : Int) : Rat)) * (((1 : Int) : Rat) - ((0 : Int) : Rat)) + (((1 : Int) : Rat) - ((0 : Int) : Rat)) * (((0 : Int) : Rat) - ((0 : Int) : Rat))) = (Rat.divInt (-1) 2) := by decide +kernel
  have e10 : stQ (area ((0 : Int) : Rat) ((0 : Int) : Rat) ((1 : Int) : Rat) ((0 : Int) : Rat) ((0 : Int) : Rat) ((1 : Int) : Rat)) ((((0 : Int) : Rat) - ((0 : Int) : Rat)) * (((0 : Int) : Rat) - ((1 : Int) : Rat)) + (((0 : Int) : Rat) - ((1 : Int) : Rat)) * (((1 : Int) : Rat) - ((0 : Int) : Rat))) = (Rat.divInt (-1) 2) := by decide +kernel
  have e11 : stQ (area ((0 : Int) : Rat) ((0 : Int) : Rat) ((1 : Int) : Rat) ((0 : Int) : Rat) ((0 : Int) : Rat) ((1 : Int) : Rat)) ((((0 : Int) : Rat) - ((0 : Int) : Rat)) * (((0 : Int) : Rat) - ((0 : Int) : Rat)) + (((0 : Int) : Rat) - ((1 : Int) : Rat)) * (((0 : Int) : Rat) - ((1 : Int) : Rat))) = (Rat.divInt 1 2) := by decide +kernel
  have e12 : stQ (area ((0 : Int) : Rat) ((0 : Int) : Rat) ((1 : Int) : Rat) ((0 : Int) : Rat) ((0 : Int) : Rat) ((1 : Int) : Rat)) ((((0 : Int) : Rat) - ((0 : Int) : Rat)) * (((1 : Int) : Rat) - ((0 : Int) : Rat)) + (((0 : Int) : Rat) - ((1 : Int) : Rat)) * (((0 : Int) : Rat) - ((0 : Int) : Rat))) = ((0 : Int) : Rat) := by decide +kernel
  have e20 : stQ (area ((0 : Int) : Rat) ((0 : Int) : Rat) ((1 : Int) : Rat) ((0 : Int) : Rat) ((0 : Int) : Rat) ((1 : Int) : Rat)) ((((1 : Int) : Rat) - ((0 : Int) : Rat)) * (((0 : Int) : Rat) - ((1 : Int) : Rat)) + (((0 : Int) : Rat) - ((0 : Int) : Rat)) * (((1 : Int) : Rat) - ((0 : Int) : Rat))) = (Rat.divInt (-1) 2) := by decide +kernel
  have e21 : stQ (area ((0 : Int) : Rat) ((0 : Int) : Rat) ((1 : Int) : Rat) ((0 : Int) : Rat) ((0 : Int) : Rat) ((1 : Int) : Rat)) ((((1 : Int) : Rat) - ((0 : Int) : Rat)) * (((0 : Int) : Rat) - ((0 : Int) : Rat)) + (((0 : Int) : Rat) - ((0 : Int) : Rat)) * (((0 : Int) : Rat) - ((1 : Int) : Rat))) = ((0 : Int) : Rat) := by decide +kernel
  have e22 : stQ (area ((0 : Int) : Rat) ((0 : Int) : Rat) ((1 : Int) : Rat) ((0 : Int) : Rat) ((0 : Int) : Rat) ((1 : Int) : Rat)) ((((1 : Int) : Rat) - ((0 : Int) : Rat)) * (((1 : Int) : Rat) - ((0 : Int) : Rat)) + (((0 : Int) : Rat) - ((0 : Int) : Rat)) * (((0 : Int) : Rat) - ((0 : Int) : Rat))) = (Rat.divInt 1 2) := by decide +kernel
  rw [e00, e01, e02, e10, e11, e12, e20, e21, e22] at k1
  unfold u3c rtc rt at *
  simp only [List.cons_append, List.nil_append] at *
  simp (disch := first | exact dD | fail) only [Wd, W2d, W3d, Nat.reduceAdd, Nat.reduceMul, Nat.reduceSub, lc0, lc1, lc2, lc3, aidx_0, aidx_1, aidx_2, c_at17, k1, k2, k3, k_3of, k_3frac, eqa_r, eqa_p, and_self, rc9])
end
end Go.Proofs.YtmklpomcdnflbaaGreat.Am