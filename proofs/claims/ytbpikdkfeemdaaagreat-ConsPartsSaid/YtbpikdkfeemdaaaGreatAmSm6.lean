import Derived.Test.YtbpikdkfeemdaaaGreatAmGeom
import Derived.Test.YtbpikdkfeemdaaaGreatAmV
import Derived.Test.YtbpikdkfeemdaaaGreatTLaw06
/- What the laws of layer 6 begin with (printed by genlaws6.py 1). -/
set_option linter.unusedVariables false
set_option maxRecDepth 10000
set_option linter.unusedSimpArgs false
namespace Go.Proofs.YtbpikdkfeemdaaaGreat.Am
open Go

theorem neqa_of {L : List LK} {x y : AV} {p : Prop} [Decidable p] (h : opEqa false L x y = some (.bool (decide p))) : opEqa true L x y = some (.bool (decide (¬ p))) := by
  unfold opEqa at *
  split at h
  · split at h
    · rename_i hl
      simp only [hl, and_self, if_true] at *
      cases hc : eqCells L _ _ with
      | none => rw [hc] at h; cases h
      | some b =>
        rw [hc] at h
        simp only [Option.map_some, Option.some.injEq, AV.bool.injEq, cond_false] at h
        simp only [Option.map_some, cond_true, h, decide_not]
    · cases h
  · cases h
theorem neqa_r {p q : Rat} : opEqa true [.b, .s, .s] (ra p) (ra q) = some (.bool (decide (¬ p = q))) := neqa_of eqa_r
theorem neqa_p {x y u v : Rat} : opEqa true [.b, .s, .s, .b, .s, .s] (pa x y) (pa u v) = some (.bool (decide (¬ (x = u ∧ y = v)))) := neqa_of eqa_p
theorem eqa_z3' : opEqa false [.b, .s, .s] (.agg [.bool false, str [], str []]) (.agg [.bool false, .str ⟨#[]⟩, .str ⟨#[]⟩]) = some (.bool true) := by kernel_rfl
theorem eqa_z6' : opEqa false [.b, .s, .s, .b, .s, .s] (.agg [.bool false, str [], str [], .bool false, str [], str []]) (.agg [.bool false, .str ⟨#[]⟩, .str ⟨#[]⟩, .bool false, .str ⟨#[]⟩, .str ⟨#[]⟩]) = some (.bool true) := by kernel_rfl

theorem nz6 : opEqa true [.b, .s, .s, .b, .s, .s] (.agg [.bool false, str [], str [], .bool false, str [], str []]) (.agg [.bool false, str [], str [], .bool false, str [], str []]) = some (.bool false) := by kernel_rfl
theorem divInt_le1 {n d : Int} (hd : 0 < d) (h : n ≤ d) : Rat.divInt n d ≤ 1 := by
  have hp : (0 : Rat) < (d : Rat) := by
    have : ((0 : Int) : Rat) < (d : Rat) := Rat.intCast_lt_intCast.2 hd
    exact this
  rw [Rat.divInt_eq_div, ← Rat.not_lt, Rat.lt_div_iff hp, Rat.one_mul, Rat.intCast_lt_intCast]; omega

/-- Few bytes. -/
def sm1 (t : RT) : Prop := t.m.length ≤ 60 ∧ t.d.length ≤ 60
instance (t : RT) : Decidable (sm1 t) := by unfold sm1; infer_instance
def sm6 (t : T3) : Prop := sm1 t.1.1 ∧ sm1 t.1.2 ∧ sm1 t.2.1.1 ∧ sm1 t.2.1.2 ∧ sm1 t.2.2.1 ∧ sm1 t.2.2.2
instance (t : T3) : Decidable (sm6 t) := by unfold sm6; infer_instance
theorem imm_t3 {t : T3} : Imm 12 (.agg (t3c t)) := (imm_agg (d := 1) (fun c hc => by
  rcases List.mem_append.1 hc with h | h
  · rcases List.mem_append.1 h with h | h
    · exact imm_ptc _ c h
    · exact imm_ptc _ c h
  · exact imm_ptc _ c h)).mono (by omega)

section
variable {h : Heap}
theorem c_short6 {t : RT} : byVal (callW gp) h fid.gussetlaw06_short [.agg (rtc t)] = some (.bool (decide (sm1 t))) := byVal_imm (imm_L1 imm_r3) (by
  rw [gussetlaw06_short.eq]
  unfold gussetlaw06_short.f rtc
  by_cases h1 : t.m.length ≤ 60
  · by_cases h2 : t.d.length ≤ 60
    · rw [decide_eq_true (show sm1 t from ⟨h1, h2⟩)]
      have e : decide ((t.d.length : Int) ≤ 60) = true := decide_eq_true (by omega)
      simp (disch := first | omega | assumption | rfl | exact of_decide_eq_true rfl | exact ⟨rfl, rfl⟩ | (simp only [List.length_append, List.length_cons, List.length_nil]; omega) | fail) only [Wd, W2d, W3d, Int.toNat_natCast, List.nil_append, List.length_nil, List.length_cons, Nat.zero_add, Nat.mul_one, List.length_set, ne_eq, eq_self, not_true_eq_false, not_false_eq_true, decide_true, decide_false, Decidable.not_not, List.drop_zero, List.drop_succ_cons, List.take_zero, List.take_succ_cons, List.cons_append, List.set_cons_zero, List.set_cons_succ, List.drop_nil, List.append_nil, Nat.one_mul, Nat.reduceAdd, Nat.reduceMul, Nat.reduceSub, e]
    · rw [decide_eq_false (show ¬ sm1 t from fun h => h2 h.2)]
      have e : decide ((t.d.length : Int) ≤ 60) = false := decide_eq_false (by omega)
      simp (disch := first | omega | assumption | rfl | exact of_decide_eq_true rfl | exact ⟨rfl, rfl⟩ | (simp only [List.length_append, List.length_cons, List.length_nil]; omega) | fail) only [Wd, W2d, W3d, Int.toNat_natCast, List.nil_append, List.length_nil, List.length_cons, Nat.zero_add, Nat.mul_one, List.length_set, ne_eq, eq_self, not_true_eq_false, not_false_eq_true, decide_true, decide_false, Decidable.not_not, List.drop_zero, List.drop_succ_cons, List.take_zero, List.take_succ_cons, List.cons_append, List.set_cons_zero, List.set_cons_succ, List.drop_nil, List.append_nil, Nat.one_mul, Nat.reduceAdd, Nat.reduceMul, Nat.reduceSub, e]
  · rw [decide_eq_false (show ¬ sm1 t from fun h => h1 h.1)]
    simp (disch := first | omega | assumption | rfl | exact of_decide_eq_true rfl | exact ⟨rfl, rfl⟩ | (simp only [List.length_append, List.length_cons, List.length_nil]; omega) | fail) only [Wd, W2d, W3d, Int.toNat_natCast, List.nil_append, List.length_nil, List.length_cons, Nat.zero_add, Nat.mul_one, List.length_set, ne_eq, eq_self, not_true_eq_false, not_false_eq_true, decide_true, decide_false, Decidable.not_not, List.drop_zero, List.drop_succ_cons, List.take_zero, List.take_succ_cons, List.cons_append, List.set_cons_zero, List.set_cons_succ, List.drop_nil, List.append_nil, Nat.one_mul, Nat.reduceAdd, Nat.reduceMul, Nat.reduceSub])
theorem c_small6 {t : T3} : byVal (callW gp) h fid.gussetlaw06_small [.agg (t3c t)] = some (.bool (decide (sm6 t))) := byVal_imm (imm_L1 imm_t3) (by
  obtain ⟨⟨a1, a2⟩, ⟨b1, b2⟩, ⟨d1, d2⟩⟩ := t
  rw [gussetlaw06_small.eq]
  have e := fun h t => c_short6 (h := h) (t := t)
  unfold gussetlaw06_small.f t3c ptc
  have ea := fun h => e h a1
  have eb := fun h => e h a2
  have ec := fun h => e h b1
  have ed := fun h => e h b2
  have ee := fun h => e h d1
  have ef := fun h => e h d2
  clear e
  unfold rtc at *
  simp only [List.cons_append, List.nil_append]
  by_cases q0 : sm1 a1
  rotate_left
  · rw [decide_eq_false (show ¬ sm6 ((a1, a2), (b1, b2), (d1, d2)) from fun h => q0 h.1)]
    simp (disch := first | omega | assumption | rfl | exact of_decide_eq_true rfl | exact ⟨rfl, rfl⟩ | (simp only [List.length_append, List.length_cons, List.length_nil]; omega) | fail) only [Wd, W2d, W3d, Int.toNat_natCast, List.nil_append, List.length_nil, List.length_cons, Nat.zero_add, Nat.mul_one, List.length_set, ne_eq, eq_self, not_true_eq_false, not_false_eq_true, decide_true, decide_false, Decidable.not_not, List.drop_zero, List.drop_succ_cons, List.take_zero, List.take_succ_cons, List.cons_append, List.set_cons_zero, List.set_cons_succ, List.drop_nil, List.append_nil, Nat.one_mul, Nat.reduceAdd, Nat.reduceMul, Nat.reduceSub, ea, eb, ec, ed, ee, ef]
  by_cases q1 : sm1 a2
  rotate_left
  · rw [decide_eq_false (show ¬ sm6 ((a1, a2), (b1, b2), (d1, d2)) from fun h => q1 h.2.1)]
    simp (disch := first | omega | assumption | rfl | exact of_decide_eq_true rfl | exact ⟨rfl, rfl⟩ | (simp only [List.length_append, List.length_cons, List.length_nil]; omega) | fail) only [Wd, W2d, W3d, Int.toNat_natCast, List.nil_append, List.length_nil, List.length_cons, Nat.zero_add, Nat.mul_one, List.length_set, ne_eq, eq_self, not_true_eq_false, not_false_eq_true, decide_true, decide_false, Decidable.not_not, List.drop_zero, List.drop_succ_cons, List.take_zero, List.take_succ_cons, List.cons_append, List.set_cons_zero, List.set_cons_succ, List.drop_nil, List.append_nil, Nat.one_mul, Nat.reduceAdd, Nat.reduceMul, Nat.reduceSub, ea, eb, ec, ed, ee, ef]
  by_cases q2 : sm1 b1
  rotate_left
  · rw [decide_eq_false (show ¬ sm6 ((a1, a2), (b1, b2), (d1, d2)) from fun h => q2 h.2.2.1)]
    simp (disch := first | omega | assumption | rfl | exact of_decide_eq_true rfl | exact ⟨rfl, rfl⟩ | (simp only [List.length_append, List.length_cons, List.length_nil]; omega) | fail) only [Wd, W2d, W3d, Int.toNat_natCast, List.nil_append, List.length_nil, List.length_cons, Nat.zero_add, Nat.mul_one, List.length_set, ne_eq, eq_self, not_true_eq_false, not_false_eq_true, decide_true, decide_false, Decidable.not_not, List.drop_zero, List.drop_succ_cons, List.take_zero, List.take_succ_cons, List.cons_append, List.set_cons_zero, List.set_cons_succ, List.drop_nil, List.append_nil, Nat.one_mul, Nat.reduceAdd, Nat.reduceMul, Nat.reduceSub, ea, eb, ec, ed, ee, ef]
  by_cases q3 : sm1 b2
  rotate_left
  · rw [decide_eq_false (show ¬ sm6 ((a1, a2), (b1, b2), (d1, d2)) from fun h => q3 h.2.2.2.1)]
    simp (disch := first | omega | assumption | rfl | exact of_decide_eq_true rfl | exact ⟨rfl, rfl⟩ | (simp only [List.length_append, List.length_cons, List.length_nil]; omega) | fail) only [Wd, W2d, W3d, Int.toNat_natCast, List.nil_append, List.length_nil, List.length_cons, Nat.zero_add, Nat.mul_one, List.length_set, ne_eq, eq_self, not_true_eq_false, not_false_eq_true, decide_true, decide_false, Decidable.not_not, List.drop_zero, List.drop_succ_cons, List.take_zero, List.take_succ_cons, List.cons_append, List.set_cons_zero, List.set_cons_succ, List.drop_nil, List.append_nil, Nat.one_mul, Nat.reduceAdd, Nat.reduceMul, Nat.reduceSub, ea, eb, ec, ed, ee, ef]
  by_cases q4 : sm1 d1
  rotate_left
  · rw [decide_eq_false (show ¬ sm6 ((a1, a2), (b1, b2), (d1, d2)) from fun h => q4 h.2.2.2.2.1)]
    simp (disch := first | omega | assumption | rfl | exact of_decide_eq_true rfl | exact ⟨rfl, rfl⟩ | (simp only [List.length_append, List.length_cons, List.length_nil]; omega) | fail) only [Wd, W2d, W3d, Int.toNat_natCast, List.nil_append, List.length_nil, List.length_cons, Nat.zero_add, Nat.mul_one, List.length_set, ne_eq, eq_self, not_true_eq_false, not_false_eq_true, decide_true, decide_false, Decidable.not_not, List.drop_zero, List.drop_succ_cons, List.take_zero, List.take_succ_cons, List.cons_append, List.set_cons_zero, List.set_cons_succ, List.drop_nil, List.append_nil, Nat.one_mul, Nat.reduceAdd, Nat.reduceMul, Nat.reduceSub, ea, eb, ec, ed, ee, ef]
  by_cases q5 : sm1 d2
  rotate_left
  · rw [decide_eq_false (show ¬ sm6 ((a1, a2), (b1, b2), (d1, d2)) from fun h => q5 h.2.2.2.2.2)]
    have e : decide (sm1 d2) = false := decide_eq_false q5
    simp (disch := first | omega | assumption | rfl | exact of_decide_eq_true rfl | exact ⟨rfl, rfl⟩ | (simp only [List.length_append, List.length_cons, List.length_nil]; omega) | fail) only [Wd, W2d, W3d, Int.toNat_natCast, List.nil_append, List.length_nil, List.length_cons, Nat.zero_add, Nat.mul_one, List.length_set, ne_eq, eq_self, not_true_eq_false, not_false_eq_true, decide_true, decide_false, Decidable.not_not, List.drop_zero, List.drop_succ_cons, List.take_zero, List.take_succ_cons, List.cons_append, List.set_cons_zero, List.set_cons_succ, List.drop_nil, List.append_nil, Nat.one_mul, Nat.reduceAdd, Nat.reduceMul, Nat.reduceSub, ea, eb, ec, ed, ee, ef, e]
  rw [decide_eq_true (show sm6 ((a1, a2), (b1, b2), (d1, d2)) from ⟨q0, q1, q2, q3, q4, q5⟩)]
  have e : decide (sm1 d2) = true := decide_eq_true q5
  simp (disch := first | omega | assumption | rfl | exact of_decide_eq_true rfl | exact ⟨rfl, rfl⟩ | (simp only [List.length_append, List.length_cons, List.length_nil]; omega) | fail) only [Wd, W2d, W3d, Int.toNat_natCast, List.nil_append, List.length_nil, List.length_cons, Nat.zero_add, Nat.mul_one, List.length_set, ne_eq, eq_self, not_true_eq_false, not_false_eq_true, decide_true, decide_false, Decidable.not_not, List.drop_zero, List.drop_succ_cons, List.take_zero, List.take_succ_cons, List.cons_append, List.set_cons_zero, List.set_cons_succ, List.drop_nil, List.append_nil, Nat.one_mul, Nat.reduceAdd, Nat.reduceMul, Nat.reduceSub, ea, eb, ec, ed, ee, ef, e])
theorem small_rat {a b c : PT} (ha : a.ok) (hb : b.ok) (hc : c.ok) (hs : sm6 (a, b, c)) (hz : firstE ([a, b, c].map askc) = 0) :
    ∃ ax ay bx b_ cx cy, a = (rt ax, rt ay) ∧ b = (rt bx, rt b_) ∧ c = (rt cx, rt cy) ∧ Rz ax 60 ∧ Rz ay 60 ∧ Rz bx 60 ∧ Rz b_ 60 ∧ Rz cx 60 ∧ Rz cy 60 := by
  obtain ⟨s1, s2, s3, s4, s5, s6⟩ := hs
  simp only at s1 s2 s3 s4 s5 s6
  rw [firstE3, askc_small ⟨by have := s1.1; omega, by have := s1.2; omega⟩ ⟨by have := s2.1; omega, by have := s2.2; omega⟩, askc_small ⟨by have := s3.1; omega, by have := s3.2; omega⟩ ⟨by have := s4.1; omega, by have := s4.2; omega⟩, askc_small ⟨by have := s5.1; omega, by have := s5.2; omega⟩ ⟨by have := s6.1; omega, by have := s6.2; omega⟩] at hz
  by_cases z1 : pchk a = 0
  · rw [if_pos z1] at hz
    by_cases z2 : pchk b = 0
    · rw [if_pos z2] at hz
      obtain ⟨ax, ay, ea, e1, e2⟩ := PT.ratz ha z1 s1 s2
      obtain ⟨bx, b_, eb, e3, e4⟩ := PT.ratz hb z2 s3 s4
      obtain ⟨cx, cy, ec, e5, e6⟩ := PT.ratz hc hz s5 s6
      exact ⟨ax, ay, bx, b_, cx, cy, ea, eb, ec, e1, e2, e3, e4, e5, e6⟩
    · rw [if_neg z2] at hz; exact absurd hz z2
  · rw [if_neg z1] at hz; exact absurd hz z1
theorem small_rat2 {a b c : PT} (ha : a.ok) (hb : b.ok) (hs : sm6 (a, b, c)) (hz : firstE ([a, b].map askc) = 0) :
    ∃ ax ay bx b_, a = (rt ax, rt ay) ∧ b = (rt bx, rt b_) ∧ Rz ax 60 ∧ Rz ay 60 ∧ Rz bx 60 ∧ Rz b_ 60 := by
  obtain ⟨s1, s2, s3, s4, s5, s6⟩ := hs
  simp only at s1 s2 s3 s4
  rw [firstE2, askc_small ⟨by have := s1.1; omega, by have := s1.2; omega⟩ ⟨by have := s2.1; omega, by have := s2.2; omega⟩, askc_small ⟨by have := s3.1; omega, by have := s3.2; omega⟩ ⟨by have := s4.1; omega, by have := s4.2; omega⟩] at hz
  by_cases z1 : pchk a = 0
  · rw [if_pos z1] at hz
    obtain ⟨ax, ay, ea, e1, e2⟩ := PT.ratz ha z1 s1 s2
    obtain ⟨bx, b_, eb, e3, e4⟩ := PT.ratz hb hz s3 s4
    exact ⟨ax, ay, bx, b_, ea, eb, e1, e2, e3, e4⟩
  · rw [if_neg z1] at hz; exact absurd hz z1
theorem k_5asked2 {a b : PT} {f : Bool} (ha : a.ok) (hb : b.ok) : byVal (callW gp) h fid.gussetref05_Asked [.is 2 f [.bool a.1.s, str a.1.m, str a.1.d, .bool a.2.s, str a.2.m, str a.2.d, .bool b.1.s, str b.1.m, str b.1.d, .bool b.2.s, str b.2.m, str b.2.d]] = some (.int .i64 (firstE ([a, b].map askc))) := k_5asked (ok2 ha hb) (by simp)
theorem ok1 {a : PT} (ha : a.ok) : ∀ t ∈ [a], t.ok := fun t ht => by
  simp only [List.mem_cons, List.not_mem_nil, or_false] at ht
  rw [ht]; exact ha
theorem k_5asked1 {a : PT} {f : Bool} (ha : a.ok) : byVal (callW gp) h fid.gussetref05_Asked [.is 1 f [.bool a.1.s, str a.1.m, str a.1.d, .bool a.2.s, str a.2.m, str a.2.d]] = some (.int .i64 (askc a)) := by
  have := k_5asked (h := h) (f := f) (ok1 ha) (by simp)
  rw [firstE1] at this
  exact this
end
theorem far_apart {ax ay bx b_ cx cy : Rat} (h : area ax ay bx b_ cx cy ≠ 0) : farQ ax ay bx b_ ≠ 0 ∧ farQ bx b_ cx cy ≠ 0 ∧ farQ cx cy ax ay ≠ 0 := by
  obtain ⟨h1, h2, h3⟩ := area_apart h
  exact ⟨fun h => h1 (far_zero h), fun h => h2 ⟨(far_zero h).1.symm, (far_zero h).2.symm⟩, fun h => h3 (far_zero h)⟩
theorem minQ_ne {x y : Rat} (hx : x ≠ 0) (hy : y ≠ 0) : minQ x y ≠ 0 := by unfold minQ; split <;> assumption
theorem far_pos {ax ay bx b_ : Rat} (h : farQ ax ay bx b_ ≠ 0) : 0 < farQ ax ay bx b_ := by
  have := @far_nonneg ax ay bx b_; grind

end Go.Proofs.YtbpikdkfeemdaaaGreat.Am