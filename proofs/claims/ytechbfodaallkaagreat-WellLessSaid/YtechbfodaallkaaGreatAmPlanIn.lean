import Derived.Test.YtechbfodaallkaaGreatAmSmall10
/- Plans as arguments. -/
set_option linter.unusedVariables false
set_option maxRecDepth 10000
set_option linter.unusedSimpArgs false
namespace Go.Proofs.YtechbfodaallkaaGreat.Am
open Go

section
variable {P : Program}
theorem chunkP {α : Type} {f : α → List AV} {c : Nat} {ok : α → Prop} (hf : ∀ x, (f x).length = c) : ∀ (n : Nat) (xs : List AV), xs.length = n * c → (∀ i, i < n → ∃ x, (xs.drop (i * c)).take c = f x ∧ ok x) → ∃ l : List α, xs = l.flatMap f ∧ l.length = n ∧ ∀ x ∈ l, ok x
  | 0, xs, hl, _ => by
    have : xs = [] := List.length_eq_zero_iff.1 (by simpa using hl)
    subst this
    exact ⟨[], rfl, rfl, by simp⟩
  | n + 1, xs, hl, h => by
    obtain ⟨x, hx, ox⟩ := h 0 (by omega)
    rw [Nat.zero_mul, List.drop_zero] at hx
    rw [Nat.add_mul, Nat.one_mul] at hl
    obtain ⟨l, h1, h2, h3⟩ := chunkP hf n (xs.drop c) (by rw [List.length_drop]; omega) fun i hi => by
      have := h (i + 1) (by omega)
      rwa [Nat.add_mul, Nat.one_mul, Nat.add_comm, ← List.drop_drop] at this
    refine ⟨x :: l, ?_, by simp [h2], ?_⟩
    · rw [List.flatMap_cons, ← hx, ← h1, List.take_append_drop]
    · intro y hy
      rcases List.mem_cons.1 hy with rfl | hy
      · exact ox
      · exact h3 y hy
theorem arrP {k n : Nat} {t e : TypeId} {cs : List AV} {α : Type} {f : α → List AV} {ok : α → Prop} {c : Nat} (hu : P.underlying t = some (.array n e)) (hc : P.cellsOf e = c) (hl : P.cellsOf t = n * c) (hf : ∀ x, (f x).length = c) (he : ∀ cs, Dat P k e cs → ∃ x, cs = f x ∧ ok x) (hd : Dat P (k + 1) t cs) :
    ∃ l : List α, cs = l.flatMap f ∧ l.length = n ∧ ∀ x ∈ l, ok x := by
  unfold Dat at hd
  rw [hu] at hd
  obtain ⟨h1, h2⟩ := hd
  rw [hc] at h2
  rw [hl] at h1
  exact chunkP hf n cs h1 fun i hi => he _ (h2 i hi)
theorem rowP {k : Nat} {t e : TypeId} {cs : List AV} {α : Type} {f : α → List AV} {ok : α → Prop} {c : Nat} (hu : P.underlying t = some (.slice e)) (hc : P.cellsOf e = c) (hf : ∀ x, (f x).length = c) (he : ∀ cs, Dat P k e cs → ∃ x, cs = f x ∧ ok x) (hd : Dat P (k + 1) t cs) :
    ∃ l : List α, cs = [.is l.length false (l.flatMap f)] ∧ ∀ x ∈ l, ok x := by
  unfold Dat at hd
  rw [hu] at hd
  obtain ⟨n, xs, rfl, hn, hl, hx⟩ := hd
  rw [hc] at hl hx
  obtain ⟨l, h1, h2, h3⟩ := chunkP hf n xs hl fun i hi => he _ (hx i hi)
  exact ⟨l, by rw [h1, ← h2], h3⟩
def isI64P (P : Program) (t : TypeId) : Bool := P.cellsOf t == 1 &&
  match P.underlying t with
  | some (.int .i64) => true
  | _ => false
theorem i64P {k : Nat} {t : TypeId} {cs : List AV} (h : isI64P P t = true) (hd : Dat P (k + 1) t cs) : ∃ n, cs = [.int .i64 n] := by
  unfold isI64P at h
  simp only [Bool.and_eq_true, beq_iff_eq] at h
  have h2 := h.2
  split at h2
  · rename_i hu
    unfold Dat at hd
    rw [hu] at hd
    obtain ⟨n, hn, _⟩ := hd
    exact ⟨n, hn⟩
  · cases h2
def isSegT (P : Program) (t : TypeId) : Bool := P.cellsOf t == 3 &&
  match P.underlying t with
  | some (.struct fs) =>
    match fs.toList with
    | [f1, f2, f3] => f1.offset == 0 && f2.offset == 1 && f3.offset == 2 && isI64P P f1.type && isI64P P f2.type && isBoolT P f3.type
    | _ => false
  | _ => false
theorem sg_cells {k : Nat} {t : TypeId} {cs : List AV} (ht : isSegT P t = true) (h : Dat P (k + 2) t cs) : ∃ s : Sg, cs = sgc s ∧ True := by
  unfold isSegT at ht
  simp only [Bool.and_eq_true, beq_iff_eq] at ht
  obtain ⟨h0, h2⟩ := ht
  split at h2
  · rename_i fs hu
    split at h2
    · rename_i f1 f2 f3 hfs
      simp only [Bool.and_eq_true, beq_iff_eq] at h2
      obtain ⟨⟨⟨⟨⟨e1, e2⟩, e3⟩, e4⟩, e5⟩, e6⟩ := h2
      unfold Dat at h
      rw [hu] at h
      obtain ⟨hl, hf⟩ := h
      rw [hfs, h0] at *
      have a := hf f1 (by simp)
      have b := hf f2 (by simp)
      have c := hf f3 (by simp)
      have c4 : P.cellsOf f1.type = 1 := by unfold isI64P at e4; simp only [Bool.and_eq_true, beq_iff_eq] at e4; exact e4.1
      have c5 : P.cellsOf f2.type = 1 := by unfold isI64P at e5; simp only [Bool.and_eq_true, beq_iff_eq] at e5; exact e5.1
      rw [e1, c4] at a
      rw [e2, c5] at b
      rw [e3, cells_of_T.2.1 e6] at c
      obtain ⟨n, hn⟩ := i64P e4 a
      obtain ⟨m, hm⟩ := i64P e5 b
      obtain ⟨z, hz⟩ := bool_cells e6 c
      match cs, hl with
      | [x, y, w], _ =>
        simp only [List.drop_zero, List.take_succ_cons, List.take_zero, List.drop_succ_cons, List.cons.injEq, and_true] at hn hm hz
        exact ⟨⟨n, m, z⟩, by rw [hn, hm, hz]; rfl, trivial⟩
    · cases h2
  · cases h2
def isRowT (P : Program) (t e : TypeId) : Bool := P.cellsOf t == 1 &&
  match P.underlying t with
  | some (.slice d) => d == e
  | _ => false
theorem row_of {t e : TypeId} (h : isRowT P t e = true) : P.cellsOf t = 1 ∧ P.underlying t = some (.slice e) := by
  unfold isRowT at h
  simp only [Bool.and_eq_true, beq_iff_eq] at h
  refine ⟨h.1, ?_⟩
  have h2 := h.2
  split at h2
  · rename_i d hu
    simp only [beq_iff_eq] at h2
    rw [hu, h2]
  · cases h2
def isSixT (P : Program) (t e : TypeId) : Bool := P.cellsOf t == 18 &&
  match P.underlying t with
  | some (.array m d) => m == 6 && d == e
  | _ => false
theorem six_of {t e : TypeId} (h : isSixT P t e = true) : P.cellsOf t = 18 ∧ P.underlying t = some (.array 6 e) := by
  unfold isSixT at h
  simp only [Bool.and_eq_true, beq_iff_eq] at h
  refine ⟨h.1, ?_⟩
  have h2 := h.2
  split at h2
  · rename_i m d hu
    simp only [Bool.and_eq_true, beq_iff_eq] at h2
    rw [hu, h2.1, h2.2]
  · cases h2
def isPlanT (P : Program) (t pt sg rt : TypeId) : Bool := P.cellsOf t == 39 && isPtT P pt && isSegT P sg && isRatT P rt &&
  match P.underlying t with
  | some (.struct fs) =>
    match fs.toList with
    | [f1, f2, f3, f4, f5] => f1.offset == 0 && f2.offset == 1 && f3.offset == 2 && f4.offset == 3 && f5.offset == 21 && isRowT P f1.type pt && isRowT P f2.type sg && isRowT P f3.type pt && isSixT P f4.type rt && isSixT P f5.type rt
    | _ => false
  | _ => false
theorem six_r6 {l : List RT} (hn : l.length = 6) (hok : ∀ x ∈ l, x.ok) : ∃ r : R6, l = r.l ∧ r.ok := by
  match l, hn with
  | [a, b, c, d, e, f], _ => exact ⟨(a, b, c, d, e, f), rfl, hok⟩
theorem plan_in {t pt sg rt : TypeId} {v : AV} (hag : isAggT P t = true) (hh : isPlanT P t pt sg rt = true) (h : DatV P 9 t v) : ∃ p : Pl, v = .agg (plc p) ∧ p.wide := by
  unfold isPlanT at hh
  simp only [Bool.and_eq_true, beq_iff_eq] at hh
  obtain ⟨⟨⟨⟨ct, r1⟩, r2⟩, r3⟩, h2⟩ := hh
  split at h2
  · rename_i fs hu
    split at h2
    · rename_i f1 f2 f3 f4 f5 hfs
      simp only [Bool.and_eq_true, beq_iff_eq] at h2
      obtain ⟨⟨⟨⟨⟨⟨⟨⟨⟨o1, o2⟩, o3⟩, o4⟩, o5⟩, u1⟩, u2⟩, u3⟩, u4⟩, u5⟩ := h2
      obtain ⟨c1, u1⟩ := row_of u1
      obtain ⟨c2, u2⟩ := row_of u2
      obtain ⟨c3, u3⟩ := row_of u3
      obtain ⟨c4, u4⟩ := six_of u4
      obtain ⟨c5, u5⟩ := six_of u5
      obtain ⟨cs, rfl, hd⟩ := agg_in hag h
      unfold Dat at hd
      rw [hu] at hd
      obtain ⟨hl, hf⟩ := hd
      rw [ct] at hl
      rw [hfs] at hf
      have d1 := hf f1 (by simp)
      have d2 := hf f2 (by simp)
      have d3 := hf f3 (by simp)
      have d4 := hf f4 (by simp)
      have d5 := hf f5 (by simp)
      rw [o1, c1] at d1
      rw [o2, c2] at d2
      rw [o3, c3] at d3
      rw [o4, c4] at d4
      rw [o5, c5] at d5
      obtain ⟨ps, g1, k1⟩ := rowP (k := 7) (f := ptc) (ok := PT.ok) u1 (cells_of_T.2.2.2.2.1 r1) ptc_len (fun cs h => pt_cells r1 h) d1
      obtain ⟨ss, g2, k2⟩ := rowP (k := 7) (f := sgc) (ok := fun _ => True) u2 (by unfold isSegT at r2; simp only [Bool.and_eq_true, beq_iff_eq] at r2; exact r2.1) sgc_len (fun cs h => sg_cells r2 h) d2
      obtain ⟨hs, g3, k3⟩ := rowP (k := 7) (f := ptc) (ok := PT.ok) u3 (cells_of_T.2.2.2.2.1 r1) ptc_len (fun cs h => pt_cells r1 h) d3
      obtain ⟨l4, g4, n4, k4⟩ := arrP (k := 7) (f := rtc) (ok := RT.ok) u4 (cells_of_T.2.2.2.1 r3) c4 rtc_len (fun cs h => rat_cells r3 h) d4
      obtain ⟨l5, g5, n5, k5⟩ := arrP (k := 7) (f := rtc) (ok := RT.ok) u5 (cells_of_T.2.2.2.1 r3) c5 rtc_len (fun cs h => rat_cells r3 h) d5
      obtain ⟨F, rfl, kF⟩ := six_r6 n4 k4
      obtain ⟨G, rfl, kG⟩ := six_r6 n5 k5
      refine ⟨⟨ps, ss, hs, F, G⟩, ?_, k1, k3, kF, kG⟩
      have e : cs = (cs.drop 0).take 1 ++ ((cs.drop 1).take 1 ++ ((cs.drop 2).take 1 ++ ((cs.drop 3).take 18 ++ (cs.drop 21).take 18))) := by
        have q1 : (cs.drop 21).take 18 = cs.drop 21 := List.take_of_length_le (by rw [List.length_drop]; omega)
        rw [q1]
        have q2 : (cs.drop 3).take 18 ++ cs.drop 21 = cs.drop 3 := by
          have := List.take_append_drop 18 (cs.drop 3)
          rwa [List.drop_drop] at this
        rw [q2]
        have q3 : (cs.drop 2).take 1 ++ cs.drop 3 = cs.drop 2 := by
          have := List.take_append_drop 1 (cs.drop 2)
          rwa [List.drop_drop] at this
        rw [q3]
        have q4 : (cs.drop 1).take 1 ++ cs.drop 2 = cs.drop 1 := by
          have := List.take_append_drop 1 (cs.drop 1)
          rwa [List.drop_drop] at this
        rw [q4, List.drop_zero, List.take_append_drop]
      rw [e, g1, g2, g3, g4, g5]
      rfl
    · cases h2
  · cases h2
end
end Go.Proofs.YtechbfodaallkaaGreat.Am
