import Derived.Test.YtechbfodaallkaaGreatAmWell14
import Derived.Test.YtechbfodaallkaaGreatAmWell17
import Derived.Test.YtechbfodaallkaaGreatAmRc
import Derived.Test.YtechbfodaallkaaGreatTWLess
/- A plan that holds, holds with a segment less, a hole less, turned round. -/
set_option linter.unusedVariables false
set_option maxRecDepth 10000
set_option linter.unusedSimpArgs false
namespace Go.Proofs.YtechbfodaallkaaGreat.Am
open Go

/-! ### Segments either way round -/
def swS (s : Sq) : Sq := (s.2.1, s.1, !s.2.2)
theorem sw_ok {n : Nat} {s : Sq} (h : SqOk n s) : SqOk n (swS s) := ⟨h.2.1, h.1, Ne.symm h.2.2⟩
section
variable {ax ay bx b_ cx cy dx dy : Rat}
theorem area_sw : area bx b_ ax ay cx cy = -area ax ay bx b_ cx cy := by unfold area; grind
theorem disc_sw : discQ bx b_ ax ay cx cy = discQ ax ay bx b_ cx cy := by unfold discQ; grind
theorem on_sw : onP bx b_ ax ay cx cy ↔ onP ax ay bx b_ cx cy := by
  unfold onP
  rw [area_sw, disc_sw]
  constructor
  · intro h; exact ⟨by have := h.1; grind, h.2⟩
  · intro h; exact ⟨by rw [h.1]; exact Rat.neg_zero, h.2⟩
theorem sgn3 (x : Rat) : rsgn x = -1 ∨ rsgn x = 0 ∨ rsgn x = 1 := by
  unfold rsgn
  split
  · exact .inl rfl
  · split
    · exact .inr (.inl rfl)
    · exact .inr (.inr rfl)
theorem sgn_neg {x : Rat} : rsgn (-x) = -(rsgn x) := by
  have a1 := @rsgn_zero x
  have a2 := @rsgn_zero (-x)
  have a3 := @rsgn_le x
  have a4 := @rsgn_le (-x)
  have c1 := sgn3 x
  have c2 := sgn3 (-x)
  have e1 : -x = 0 ↔ x = 0 := by constructor <;> intro h <;> grind
  by_cases h0 : x = 0
  · have z1 := a1.2 h0
    have z2 := a2.2 (e1.2 h0)
    omega
  · have z1 : ¬ rsgn x = 0 := fun h => h0 (a1.1 h)
    have z2 : ¬ rsgn (-x) = 0 := fun h => h0 (e1.1 (a2.1 h))
    by_cases h1 : x ≤ 0
    · have w1 := a3.2 h1
      have : ¬ -x ≤ 0 := fun g => h0 (by grind)
      have w2 : ¬ rsgn (-x) ≤ 0 := fun h => this (a4.1 h)
      omega
    · have w1 : ¬ rsgn x ≤ 0 := fun h => h1 (a3.1 h)
      have : -x ≤ 0 := by
        have := Rat.le_of_lt (Rat.not_le.1 h1)
        grind
      have w2 := a4.2 this
      omega
/-- Do two segments meet, of which no ends are one? -/
def meetsP (ax ay bx b_ cx cy dx dy : Rat) : Prop := meetQ ax ay bx b_ cx cy dx dy ≠ 0
theorem meets_iff : meetsP ax ay bx b_ cx cy dx dy ↔ (onP ax ay bx b_ cx cy ∨ onP ax ay bx b_ dx dy ∨ onP cx cy dx dy ax ay ∨ onP cx cy dx dy bx b_) ∨ (rsgn (area ax ay bx b_ cx cy) * rsgn (area ax ay bx b_ dx dy) < 0 ∧ rsgn (area cx cy dx dy ax ay) * rsgn (area cx cy dx dy bx b_) < 0) := by
  unfold meetsP meetQ
  by_cases h1 : onP ax ay bx b_ cx cy ∨ onP ax ay bx b_ dx dy ∨ onP cx cy dx dy ax ay ∨ onP cx cy dx dy bx b_
  · rw [if_pos h1]; exact ⟨fun _ => .inl h1, fun _ => by decide⟩
  rw [if_neg h1]
  by_cases h2 : rsgn (area ax ay bx b_ cx cy) * rsgn (area ax ay bx b_ dx dy) < 0 ∧ rsgn (area cx cy dx dy ax ay) * rsgn (area cx cy dx dy bx b_) < 0
  · rw [if_pos h2]; exact ⟨fun _ => .inr h2, fun _ => by decide⟩
  · rw [if_neg h2]; exact ⟨fun h => absurd rfl h, fun h => (h.elim h1 h2).elim⟩
theorem meets_sw : meetsP bx b_ ax ay cx cy dx dy ↔ meetsP ax ay bx b_ cx cy dx dy := by
  rw [meets_iff, meets_iff, on_sw (ax := ax) (ay := ay) (bx := bx) (b_ := b_) (cx := cx) (cy := cy), on_sw (ax := ax) (ay := ay) (bx := bx) (b_ := b_) (cx := dx) (cy := dy), area_sw (ax := ax) (ay := ay) (bx := bx) (b_ := b_) (cx := cx) (cy := cy), area_sw (ax := ax) (ay := ay) (bx := bx) (b_ := b_) (cx := dx) (cy := dy), sgn_neg, sgn_neg, Int.neg_mul_neg, Int.mul_comm (rsgn (area cx cy dx dy bx b_))]
  constructor
  · rintro ((h | h | h | h) | h)
    · exact .inl (.inl h)
    · exact .inl (.inr (.inl h))
    · exact .inl (.inr (.inr (.inr h)))
    · exact .inl (.inr (.inr (.inl h)))
    · exact .inr h
  · rintro ((h | h | h | h) | h)
    · exact .inl (.inl h)
    · exact .inl (.inr (.inl h))
    · exact .inl (.inr (.inr (.inr h)))
    · exact .inl (.inr (.inr (.inl h)))
    · exact .inr h
theorem meets_comm : meetsP cx cy dx dy ax ay bx b_ ↔ meetsP ax ay bx b_ cx cy dx dy := by
  rw [meets_iff, meets_iff]
  constructor
  · rintro ((h | h | h | h) | h)
    · exact .inl (.inr (.inr (.inl h)))
    · exact .inl (.inr (.inr (.inr h)))
    · exact .inl (.inl h)
    · exact .inl (.inr (.inl h))
    · exact .inr ⟨h.2, h.1⟩
  · rintro ((h | h | h | h) | h)
    · exact .inl (.inr (.inr (.inl h)))
    · exact .inl (.inr (.inr (.inr h)))
    · exact .inl (.inl h)
    · exact .inl (.inr (.inl h))
    · exact .inr ⟨h.2, h.1⟩
theorem sharp_sw : sharpQ cx cy bx b_ ax ay = sharpQ ax ay bx b_ cx cy := by
  unfold sharpQ
  have e1 : (cx - bx) * (ax - bx) + (cy - b_) * (ay - b_) = (ax - bx) * (cx - bx) + (ay - b_) * (cy - b_) := by grind
  rw [e1, Rat.mul_comm ((cx - bx) * (cx - bx) + (cy - b_) * (cy - b_))]
end
section
variable {ps : List (Rat × Rat)}
def mtI (ps : List (Rat × Rat)) (a b c d : Nat) : Prop := meetsP (px ps a) (py ps a) (px ps b) (py ps b) (px ps c) (py ps c) (px ps d) (py ps d)
def shI (ps : List (Rat × Rat)) (a b c : Nat) : Bool := sharpQ (px ps a) (py ps a) (px ps b) (py ps b) (px ps c) (py ps c)
/-- Two segments are one, or meet elsewhere than at an end of both. -/
def crP (ps : List (Rat × Rat)) (a b c d : Nat) : Prop := ((a = c ∧ b = d) ∨ (a = d ∧ b = c)) ∨ (a ≠ c ∧ a ≠ d ∧ b ≠ c ∧ b ≠ d ∧ mtI ps a b c d)
def shT (ps : List (Rat × Rat)) (a b c d : Nat) : Prop := (a = c ∧ shI ps b a d = true) ∨ (a = d ∧ shI ps b a c = true) ∨ (b = c ∧ shI ps a b d = true) ∨ (b = d ∧ shI ps a b c = true)
theorem cross_iff {a b c d : Nat} {f g : Bool} (h1 : a ≠ b) (h2 : c ≠ d) : crossI ps (a, b, f) (c, d, g) = true ↔ crP ps a b c d := by
  unfold crossI crP sharedF sq_
  simp only
  by_cases q1 : (a : Int) = c
  · rw [if_pos q1]
    simp only [if_true, decide_eq_true_eq]
    omega
  rw [if_neg q1]
  by_cases q2 : (a : Int) = d
  · rw [if_pos q2]
    simp only [if_true, decide_eq_true_eq]
    omega
  rw [if_neg q2]
  by_cases q3 : (b : Int) = c
  · rw [if_pos q3]
    simp only [if_true, decide_eq_true_eq]
    omega
  rw [if_neg q3]
  by_cases q4 : (b : Int) = d
  · rw [if_pos q4]
    simp only [if_true, decide_eq_true_eq]
    omega
  rw [if_neg q4]
  simp only [Bool.false_eq_true, if_false, decide_eq_true_eq]
  unfold mtI meetsP
  constructor
  · intro h; exact .inr ⟨by omega, by omega, by omega, by omega, h⟩
  · rintro (h | h)
    · omega
    · exact h.2.2.2.2
theorem sharp_iff {a b c d : Nat} {f g : Bool} (h1 : a ≠ b) (h2 : c ≠ d) (hc : ¬ crP ps a b c d) : sharpI ps (a, b, f) (c, d, g) = true ↔ shT ps a b c d := by
  have n1 : ¬ (a = c ∧ b = d) := fun h => hc (.inl (.inl h))
  have n2 : ¬ (a = d ∧ b = c) := fun h => hc (.inl (.inr h))
  unfold sharpI shT sharedF sq_ shI
  simp only
  by_cases q1 : (a : Int) = c
  · rw [if_pos q1]
    simp only [if_true, Int.toNat_natCast]
    constructor
    · intro h; exact .inl ⟨by omega, h⟩
    · rintro (h | h | h | h)
      · exact h.2
      all_goals omega
  rw [if_neg q1]
  by_cases q2 : (a : Int) = d
  · rw [if_pos q2]
    simp only [if_true, Int.toNat_natCast]
    constructor
    · intro h; exact .inr (.inl ⟨by omega, h⟩)
    · rintro (h | h | h | h)
      · omega
      · exact h.2
      all_goals omega
  rw [if_neg q2]
  by_cases q3 : (b : Int) = c
  · rw [if_pos q3]
    simp only [if_true, Int.toNat_natCast]
    constructor
    · intro h; exact .inr (.inr (.inl ⟨by omega, h⟩))
    · rintro (h | h | h | h)
      · omega
      · omega
      · exact h.2
      · omega
  rw [if_neg q3]
  by_cases q4 : (b : Int) = d
  · rw [if_pos q4]
    simp only [if_true, Int.toNat_natCast]
    constructor
    · intro h; exact .inr (.inr (.inr ⟨by omega, h⟩))
    · rintro (h | h | h | h)
      · omega
      · omega
      · omega
      · exact h.2
  rw [if_neg q4]
  simp only [Bool.false_eq_true, if_false, false_iff]
  rintro (h | h | h | h) <;> omega
/-- Nothing is wrong between two segments. -/
def okP (ps : List (Rat × Rat)) (s t : Sq) : Prop := ¬ crP ps s.1 s.2.1 t.1 t.2.1 ∧ ¬ shT ps s.1 s.2.1 t.1 t.2.1
theorem okP_iff {n : Nat} {s t : Sq} (hs : SqOk n s) (ht : SqOk n t) : okP ps s t ↔ crossI ps s t = false ∧ sharpI ps s t = false := by
  obtain ⟨a, b, f⟩ := s
  obtain ⟨c, d, g⟩ := t
  have e1 := cross_iff (ps := ps) (f := f) (g := g) hs.2.2 ht.2.2
  simp only at e1
  unfold okP
  simp only
  rw [← e1]
  cases hc : crossI ps (a, b, f) (c, d, g) with
  | true => simp
  | false =>
    rw [hc] at e1
    have e2 := sharp_iff (ps := ps) (f := f) (g := g) hs.2.2 ht.2.2 (fun h => by have := e1.2 h; cases this)
    simp only at e2
    rw [← e2]
    simp
theorem mtI_sw {a b c d : Nat} : mtI ps b a c d ↔ mtI ps a b c d := meets_sw
theorem mtI_comm {a b c d : Nat} : mtI ps c d a b ↔ mtI ps a b c d := meets_comm
theorem shI_sw {a b c : Nat} : shI ps c b a = shI ps a b c := sharp_sw
theorem okP_comm {s t : Sq} (h : okP ps s t) : okP ps t s := by
  obtain ⟨a, b, f⟩ := s
  obtain ⟨c, d, g⟩ := t
  unfold okP crP shT at *
  simp only at *
  refine ⟨fun hc => h.1 ?_, fun hh => h.2 ?_⟩
  · rcases hc with (⟨rfl, rfl⟩ | ⟨rfl, rfl⟩) | ⟨h1, h2, h3, h4, h5⟩
    · exact .inl (.inl ⟨rfl, rfl⟩)
    · exact .inl (.inr ⟨rfl, rfl⟩)
    · exact .inr ⟨Ne.symm h1, Ne.symm h3, Ne.symm h2, Ne.symm h4, mtI_comm.1 h5⟩
  · rcases hh with ⟨h1, h2⟩ | ⟨h1, h2⟩ | ⟨h1, h2⟩ | ⟨h1, h2⟩
    · exact .inl ⟨h1.symm, by rw [← shI_sw, ← h1]; exact h2⟩
    · exact .inr (.inr (.inl ⟨h1.symm, by rw [← shI_sw, ← h1]; exact h2⟩))
    · exact .inr (.inl ⟨h1.symm, by rw [← shI_sw, ← h1]; exact h2⟩)
    · exact .inr (.inr (.inr ⟨h1.symm, by rw [← shI_sw, ← h1]; exact h2⟩))
theorem okP_sw {s t : Sq} (h : okP ps s t) : okP ps (swS s) t := by
  obtain ⟨a, b, f⟩ := s
  obtain ⟨c, d, g⟩ := t
  unfold okP crP shT swS at *
  simp only at *
  refine ⟨fun hc => h.1 ?_, fun hh => h.2 ?_⟩
  · rcases hc with (h1 | h1) | ⟨h1, h2, h3, h4, h5⟩
    · exact .inl (.inr ⟨h1.2, h1.1⟩)
    · exact .inl (.inl ⟨h1.2, h1.1⟩)
    · exact .inr ⟨h3, h4, h1, h2, mtI_sw.1 h5⟩
  · rcases hh with hh | hh | hh | hh
    · exact .inr (.inr (.inl hh))
    · exact .inr (.inr (.inr hh))
    · exact .inl hh
    · exact .inr (.inl hh)
theorem onI_sw {s : Sq} {x y : Rat} : onI ps (swS s) x y = onI ps s x y := by
  unfold onI swS
  exact decide_eq_decide.2 on_sw
theorem thrI_sw {s : Sq} {k : Nat} : thrI ps (swS s) k = thrI ps s k := by
  unfold thrI
  rw [onI_sw]
  unfold swS
  simp only
  cases decide (¬ (k : Int) = s.1) <;> cases decide (¬ (k : Int) = s.2.1) <;> rfl
end
/-! ### A plan that holds -/
structure Fine (q : Pq) : Prop where
  two : twiceF q = none
  thr : ∀ s ∈ q.ss, ∀ k, k < q.ps.length → thrI q.ps s k = false
  prs : q.ss.Pairwise (okP q.ps)
  hol : ∀ h ∈ q.hs, (∀ k, k < q.ps.length → eqN q.ps h.1 h.2 k = false) ∧ ∀ s ∈ q.ss, onI q.ps s h.1 h.2 = false
theorem pairG_none {n : Nat} {P : Nat → Nat → Bool} : ∀ {m i : Nat}, pairG n P m i = none → ∀ a, i ≤ a → a < i + m → ∀ k, k < n → P a k = false
  | 0, i, _, a, h1, h2, _, _ => by omega
  | m + 1, i, h, a, h1, h2, k, hk => by
    rw [pairG] at h
    cases hs : scan (P i) n 0 with
    | some j => rw [hs] at h; cases h
    | none =>
      rw [hs] at h
      by_cases ha : a = i
      · subst ha; exact scan_none hs k (Nat.zero_le _) (by omega)
      · exact pairG_none h a (by omega) (by omega) k hk
theorem pairG_all {n : Nat} {P : Nat → Nat → Bool} : ∀ {m i : Nat}, (∀ a, i ≤ a → a < i + m → ∀ k, k < n → P a k = false) → pairG n P m i = none
  | 0, _, _ => rfl
  | m + 1, i, h => by
    rw [pairG, scan_all (fun j _ hj => h i (Nat.le_refl _) (by omega) j (by omega))]
    exact pairG_all fun a h1 h2 => h a (by omega) (by omega)
theorem pairF_all {P : Nat → Nat → Bool} : ∀ {m i : Nat}, (∀ a, i ≤ a → a < i + m → ∀ k, k < a → P a k = false) → pairF P m i = none
  | 0, _, _ => rfl
  | m + 1, i, h => by
    rw [pairF, scan_all (fun j _ hj => h i (Nat.le_refl _) (by omega) j (by omega))]
    exact pairF_all fun a h1 h2 => h a (by omega) (by omega)
theorem sat_get {ss : List Sq} {i : Nat} (hi : i < ss.length) : sat ss i = ss[i] := by simp [sat, List.getD, List.getElem?_eq_getElem hi]
theorem p_get {ps : List (Rat × Rat)} {i : Nat} (hi : i < ps.length) : px ps i = ps[i].1 ∧ py ps i = ps[i].2 := by
  unfold px py; simp [List.getD, List.getElem?_eq_getElem hi]
theorem isSome_none {o : Option Nat} : o.isSome = false ↔ o = none := by cases o <;> simp
theorem fine_of {q : Pq} (hq : q.ok) (h : (firstQ q).1 = 0) : Fine q := by
  unfold firstQ at h
  cases h1 : twiceF q with
  | some r => rw [h1] at h; exact absurd h (show ¬ (8 : Int) = 0 by decide)
  | none =>
  rw [h1] at h
  cases h2 : thrF q with
  | some r => rw [h2] at h; exact absurd h (show ¬ (9 : Int) = 0 by decide)
  | none =>
  rw [h2] at h
  cases h3 : crsF q with
  | some r => rw [h3] at h; exact absurd h (show ¬ (9 : Int) = 0 by decide)
  | none =>
  rw [h3] at h
  cases h4 : angF q with
  | some r => rw [h4] at h; exact absurd h (show ¬ (10 : Int) = 0 by decide)
  | none =>
  rw [h4] at h
  simp only at h
  unfold holesF at h
  cases h5 : scan (holeI q) q.hs.length 0 with
  | some r => rw [h5] at h; exact absurd h (show ¬ (11 : Int) = 0 by decide)
  | none =>
  refine ⟨h1, fun s hs k hk => ?_, ?_, fun r hr => ?_⟩
  · obtain ⟨i, hi, rfl⟩ := List.getElem_of_mem hs
    have := pairG_none h2 i (Nat.zero_le _) (by omega) k hk
    rwa [sat_get hi] at this
  · rw [List.pairwise_iff_getElem]
    intro i j hi hj hij
    have o1 := sat_ok hq hi
    have o2 := sat_ok hq hj
    have c1 := pairF_none h3 j (Nat.zero_le _) (by omega) i hij
    have c2 := pairF_none h4 j (Nat.zero_le _) (by omega) i hij
    have := okP_comm ((okP_iff o2 o1).2 ⟨c1, c2⟩)
    rwa [sat_get hi, sat_get hj] at this
  · obtain ⟨i, hi, rfl⟩ := List.getElem_of_mem hr
    have := scan_none h5 i (Nat.zero_le _) (by omega)
    unfold holeI at this
    obtain ⟨e1, e2⟩ := p_get hi
    rw [Bool.or_eq_false_iff, isSome_none, isSome_none, e1, e2] at this
    refine ⟨fun k hk => scan_none this.1 k (Nat.zero_le _) (by omega), fun s hs => ?_⟩
    obtain ⟨j, hj, rfl⟩ := List.getElem_of_mem hs
    have g := scan_none this.2 j (Nat.zero_le _) (by omega)
    simp only [sat_get hj] at g
    exact g
theorem fine_first {q : Pq} (hq : q.ok) (h : Fine q) : firstQ q = (0, 0, 0) := by
  have prs : ∀ i, i < q.ss.length → ∀ k, k < i → crossI q.ps (sat q.ss i) (sat q.ss k) = false ∧ sharpI q.ps (sat q.ss i) (sat q.ss k) = false := fun i hi k hk => by
    have := (List.pairwise_iff_getElem.1 h.prs) k i (by omega) hi hk
    rw [← sat_get, ← sat_get] at this
    exact (okP_iff (sat_ok hq hi) (sat_ok hq (by omega))).1 (okP_comm this)
  have h2 : thrF q = none := pairG_all fun a _ ha k hk => by
    have hi : a < q.ss.length := by omega
    rw [sat_get hi]; exact h.thr _ (List.getElem_mem hi) k hk
  have h3 : crsF q = none := pairF_all fun a _ ha k hk => (prs a (by omega) k hk).1
  have h4 : angF q = none := pairF_all fun a _ ha k hk => (prs a (by omega) k hk).2
  have h5 : scan (holeI q) q.hs.length 0 = none := scan_all fun i _ hi => by
    have hi : i < q.hs.length := by omega
    obtain ⟨g1, g2⟩ := h.hol _ (List.getElem_mem hi)
    obtain ⟨e1, e2⟩ := p_get hi
    unfold holeI
    rw [Bool.or_eq_false_iff, isSome_none, isSome_none, e1, e2]
    refine ⟨scan_all fun k _ hk => g1 k (by omega), scan_all fun k _ hk => ?_⟩
    have hk : k < q.ss.length := by omega
    simp only [sat_get hk]
    exact g2 _ (List.getElem_mem hk)
  unfold firstQ holesF
  rw [h.two, h2, h3, h4, h5]
/-- With fewer segments and fewer holes. -/
theorem fine_sub {q : Pq} {ss : List Sq} {hs : List (Rat × Rat)} (h : Fine q) (h1 : ss.Sublist q.ss) (h2 : hs.Sublist q.hs) : Fine ⟨q.ps, ss, hs, q.F, q.G⟩ :=
  ⟨h.two, fun s m => h.thr s (h1.subset m), h.prs.sublist h1, fun r m => ⟨(h.hol r (h2.subset m)).1, fun s ms => (h.hol r (h2.subset m)).2 s (h1.subset ms)⟩⟩
/-- Turned round, the last first. -/
theorem fine_turn {q : Pq} (h : Fine q) : Fine ⟨q.ps, q.ss.reverse.map swS, q.hs, q.F, q.G⟩ := by
  refine ⟨h.two, fun s m k hk => ?_, ?_, fun r m => ⟨(h.hol r m).1, fun s ms => ?_⟩⟩
  · obtain ⟨t, mt, rfl⟩ := List.mem_map.1 m
    rw [thrI_sw]
    exact h.thr t (List.mem_reverse.1 mt) k hk
  · rw [List.pairwise_map, List.pairwise_reverse]
    exact h.prs.imp fun g => okP_sw (okP_comm (okP_sw g))
  · obtain ⟨t, mt, rfl⟩ := List.mem_map.1 ms
    rw [onI_sw]
    exact (h.hol r m).2 t (List.mem_reverse.1 mt)
theorem sub_ok {q : Pq} {ss : List Sq} {hs : List (Rat × Rat)} (hq : q.ok) (h1 : ∀ s ∈ ss, SqOk q.ps.length s) (h2 : hs.Sublist q.hs) (h3 : ss.length ≤ 100000) : (⟨q.ps, ss, hs, q.F, q.G⟩ : Pq).ok :=
  ⟨hq.zp, fun r m => hq.zh r (h2.subset m), h1, hq.F, hq.G, hq.n1, h3, Nat.le_trans h2.length_le hq.n3⟩
end Go.Proofs.YtechbfodaallkaaGreat.Am

/- The law of section 10 on plans with a segment less, a hole less, turned round: what is kept. -/
set_option linter.unusedVariables false
set_option maxRecDepth 10000
set_option linter.unusedSimpArgs false
namespace Go.Proofs.YtechbfodaallkaaGreat.Am
open Go

/-- At a place stands a plan that holds, and nothing that is done behind the heap's end changes that. -/
def Good (H : Heap) (J : Nat) : Prop := J < H.length ∧ ∀ H' : Heap, (∀ id, id < H.length → live H' id = live H id) → ∃ v, live H' J = some v ∧ readCells v (some 39) = some (.agg v) ∧ byVal (callW gp) H' fid.well_Check [.agg v] = some (.int .i64 0)
theorem Good.mono {H H' : Heap} {J : Nat} (h : Good H J) (hl : H.length ≤ H'.length) (ha : ∀ id, id < H.length → live H' id = live H id) : Good H' J :=
  ⟨Nat.lt_of_lt_of_le h.1 hl, fun K hK => h.2 K fun id hid => by rw [hK id (by omega), ha id hid]⟩
theorem Good.app {H T : Heap} {J : Nat} (h : Good H J) : Good (H ++ T) J := h.mono (by simp) fun id hid => by simp [live, List.getElem?_append_left hid]
/-- A row of a copy. -/
def RowAt (H : Heap) (id n : Nat) (cs : List AV) : Prop := n ≠ 0 → id < H.length ∧ live H id = some cs
theorem RowAt.keep {H H' : Heap} {id n : Nat} {cs : List AV} (h : RowAt H id n cs) (hl : H.length ≤ H'.length) (ha : ∀ i, i < H.length → live H' i = live H i) : RowAt H' id n cs := fun h0 => ⟨Nat.lt_of_lt_of_le (h h0).1 hl, by rw [ha id (h h0).1]; exact (h h0).2⟩
section
variable {q : Pq}
theorem less_given {ss : List Sq} {hs : List (Rat × Rat)} (hq : (⟨q.ps, ss, hs, q.F, q.G⟩ : Pq).ok) (hg : givenF q.pl = (0, 0, 0)) (h2 : ss.length ≤ q.ss.length) (h3 : hs.length ≤ q.hs.length) : givenF (⟨q.ps, ss, hs, q.F, q.G⟩ : Pq).pl = (0, 0, 0) := by
  obtain ⟨a1, a2, a3, a4, a5⟩ := given_zero2 (congrArg Prod.fst hg)
  unfold Pq.pl at a1 a2 a3
  simp only [List.length_map] at a1 a2 a3
  exact given_ok hq a1 (Nat.le_trans h2 a2) (Nat.le_trans h3 a3) a4 a5
theorem good_of {p : Pl} {ss : List Sq} {hs : List (Rat × Rat)} {H : Heap} {J : Nat} {x y z : AV} (hq : (⟨q.ps, ss, hs, q.F, q.G⟩ : Pq).ok) (hg : givenF (⟨q.ps, ss, hs, q.F, q.G⟩ : Pq).pl = (0, 0, 0)) (hf : Fine ⟨q.ps, ss, hs, q.F, q.G⟩) (hJ : live H J = some (cpv q.pl x y z))
    (h1 : ∀ H' : Heap, (∀ id, id < H.length → live H' id = live H id) → freezeN 11 H' x = some (.is (q.ps.map pc).length false ((q.ps.map pc).flatMap ptc)))
    (h2 : ∀ H' : Heap, (∀ id, id < H.length → live H' id = live H id) → freezeN 11 H' y = some (.is (ss.map sq_).length false ((ss.map sq_).flatMap sgc)))
    (h3 : ∀ H' : Heap, (∀ id, id < H.length → live H' id = live H id) → freezeN 11 H' z = some (.is (hs.map pc).length false ((hs.map pc).flatMap ptc))) : Good H J := by
  refine ⟨live_lt hJ, fun H' ha => ⟨cpv q.pl x y z, by rw [ha J (live_lt hJ)]; exact hJ, cpv_rc, ?_⟩⟩
  have fz : freeze H' (.agg (cpv q.pl x y z)) = some (.agg (plc (⟨q.ps, ss, hs, q.F, q.G⟩ : Pq).pl)) := frz_cpv (p := q.pl) (h1 H' ha) (h2 H' ha) (h3 H' ha)
  have cf := c_checkQ hq hg fz
  rw [fine_first hq hf] at cf
  exact cf
theorem frz_cpr {α : Type} {f : α → List AV} {sz id : Nat} {H H' : Heap} {xs : List α} (hf : ∀ x, (f x).length = sz) (hi : ∀ x, ∀ c ∈ f x, Imm 1 c) (hl : RowAt H id xs.length (xs.flatMap f)) (ha : ∀ i, i < H.length → live H' i = live H i) : freezeN 11 H' (cpR sz id xs.length) = some (.is xs.length false (xs.flatMap f)) :=
  frz_rowc hf hi fun h0 => by rw [ha id (hl h0).1]; exact (hl h0).2
/-- What a copy stands as. -/
structure Cpd (q : Pq) (H : Heap) (J P S O : Nat) (c1 c2 c3 : AV) : Prop where
  j : live H J = some (cpv q.pl c1 c2 c3)
  p : RowAt H P q.ps.length (pcs q.ps)
  s : RowAt H S q.ss.length (scs q.ss)
  o : RowAt H O q.hs.length (pcs q.hs)
/-- Behind a copy and its box. -/
theorem cpd_copy {H : Heap} : Cpd q (H ++ cpH q.pl H.length ++ [some (cpy q.pl H.length)]) (H ++ cpH q.pl H.length).length (H.length + 3) (H.length + 3 + (cpB1 q.pl).length) (H.length + 3 + (cpB1 q.pl).length + (cpB2 q.pl).length) (cpR 6 (H.length + 3) q.ps.length) (cpR 3 (H.length + 3 + (cpB1 q.pl).length) q.ss.length) (cpR 6 (H.length + 3 + (cpB1 q.pl).length + (cpB2 q.pl).length) q.hs.length) := by
  have e1 : q.pl.pts.length = q.ps.length := List.length_map ..
  have e2 : q.pl.segs.length = q.ss.length := List.length_map ..
  have e3 : q.pl.holes.length = q.hs.length := List.length_map ..
  have e : H ++ cpH q.pl H.length ++ [some (cpy q.pl H.length)] = H ++ (some (plc q.pl) :: some (cpy q.pl H.length) :: some (cpy q.pl H.length) :: (cpB1 q.pl ++ (cpB2 q.pl ++ (cpB3 q.pl ++ [some (cpy q.pl H.length)])))) := by unfold cpH; simp
  refine ⟨?_, fun h0 => ?_, fun h0 => ?_, fun h0 => ?_⟩
  · rw [live_app_self]; unfold cpy; rw [e1, e2, e3]
  · have g : live (H ++ cpH q.pl H.length ++ [some (cpy q.pl H.length)]) (H.length + 3) = some (pcs q.ps) := by rw [e]; exact lv_cp1 (by rw [e1]; exact h0)
    exact ⟨live_lt g, g⟩
  · have g : live (H ++ cpH q.pl H.length ++ [some (cpy q.pl H.length)]) (H.length + 3 + (cpB1 q.pl).length) = some (scs q.ss) := by rw [e]; exact lv_cp2 (by rw [e2]; exact h0)
    exact ⟨live_lt g, g⟩
  · have g : live (H ++ cpH q.pl H.length ++ [some (cpy q.pl H.length)]) (H.length + 3 + (cpB1 q.pl).length + (cpB2 q.pl).length) = some (pcs q.hs) := by rw [e]; exact lv_cp3 (by rw [e3]; exact h0)
    exact ⟨live_lt g, g⟩
end
end Go.Proofs.YtechbfodaallkaaGreat.Am
