import Derived.Test.YtojfiboeghonoaaGreatAmPlB
import Derived.Test.YtojfiboeghonoaaGreatAmV
/- Rows of points and of segments as arguments. -/
set_option linter.unusedVariables false
set_option maxRecDepth 10000
set_option linter.unusedSimpArgs false
namespace Go.Proofs.YtojfiboeghonoaaGreat.Am
open Go

section
variable {P : Program}
theorem chunkP {α : Type} {f : α → List AV} {c : Nat} {ok : α → Prop} (hf : ∀ x, (f x).length = c) : ∀ (n : Nat) (xs : List AV), xs.length = n * c → (∀ i, i < n → ∃ x, (xs.drop (i * c)).take c = f x ∧ ok x) → ∃ l : List α, xs = l.flatMap f ∧ l.length = n ∧ ∀ x ∈ l, ok x
  | 0, xs, hl, _ => by
    have : xs = [] := List.length_eq_zero_iff.1 (by simpa using hl)
    subst this
    exact ⟨[], rfl, rfl, by simp⟩
  | n + 1, xs, hl, h => by
    obtain ⟨x, hx, ox⟩ := h 0 (by omega)
    rw [Nat.zero_mul, List.drop_zero] at hx
    rw [Nat.add_mul, Nat.one_mul] at hl
    obtain ⟨l, h1, h2, h3⟩ := chunkP hf n (xs.drop c) (by rw [List.length_drop]; omega) fun i hi => by
      have := h (i + 1) (by omega)
      rwa [Nat.add_mul, Nat.one_mul, Nat.add_comm, ← List.drop_drop] at this
    refine ⟨x :: l, ?_, by simp [h2], ?_⟩
    · rw [List.flatMap_cons, ← hx, ← h1, List.take_append_drop]
    · intro y hy
      rcases List.mem_cons.1 hy with rfl | hy
      · exact ox
      · exact h3 y hy
theorem arrP {k n : Nat} {t e : TypeId} {cs : List AV} {α : Type} {f : α → List AV} {ok : α → Prop} {c : Nat} (hu : P.underlying t = some (.array n e)) (hc : P.cellsOf e = c) (hl : P.cellsOf t = n * c) (hf : ∀ x, (f x).length = c) (he : ∀ cs, Dat P k e cs → ∃ x, cs = f x ∧ ok x) (hd : Dat P (k + 1) t cs) :
    ∃ l : List α, cs = l.flatMap f ∧ l.length = n ∧ ∀ x ∈ l, ok x := by
  unfold Dat at hd
  rw [hu] at hd
  obtain ⟨h1, h2⟩ := hd
  rw [hc] at h2
  rw [hl] at h1
  exact chunkP hf n cs h1 fun i hi => he _ (h2 i hi)
theorem rowP {k : Nat} {t e : TypeId} {cs : List AV} {α : Type} {f : α → List AV} {ok : α → Prop} {c : Nat} (hu : P.underlying t = some (.slice e)) (hc : P.cellsOf e = c) (hf : ∀ x, (f x).length = c) (he : ∀ cs, Dat P k e cs → ∃ x, cs = f x ∧ ok x) (hd : Dat P (k + 1) t cs) :
    ∃ l : List α, cs = [.is l.length false (l.flatMap f)] ∧ ∀ x ∈ l, ok x := by
  unfold Dat at hd
  rw [hu] at hd
  obtain ⟨n, xs, rfl, hn, hl, hx⟩ := hd
  rw [hc] at hl hx
  obtain ⟨l, h1, h2, h3⟩ := chunkP hf n xs hl fun i hi => he _ (hx i hi)
  exact ⟨l, by rw [h1, ← h2], h3⟩
def isI64P (P : Program) (t : TypeId) : Bool := P.cellsOf t == 1 &&
  match P.underlying t with
  | some (.int .i64) => true
  | _ => false
theorem i64P {k : Nat} {t : TypeId} {cs : List AV} (h : isI64P P t = true) (hd : Dat P (k + 1) t cs) : ∃ n, cs = [.int .i64 n] := by
  unfold isI64P at h
  simp only [Bool.and_eq_true, beq_iff_eq] at h
  have h2 := h.2
  split at h2
  · rename_i hu
    unfold Dat at hd
    rw [hu] at hd
    obtain ⟨n, hn, _⟩ := hd
    exact ⟨n, hn⟩
  · cases h2
def isSegT (P : Program) (t : TypeId) : Bool := P.cellsOf t == 3 &&
  match P.underlying t with
  | some (.struct fs) =>
    match fs.toList with
    | [f1, f2, f3] => f1.offset == 0 && f2.offset == 1 && f3.offset == 2 && isI64P P f1.type && isI64P P f2.type && isBoolT P f3.type
    | _ => false
  | _ => false
theorem sg_cells {k : Nat} {t : TypeId} {cs : List AV} (ht : isSegT P t = true) (h : Dat P (k + 2) t cs) : ∃ s : Sg, cs = sgc s ∧ True := by
  unfold isSegT at ht
  simp only [Bool.and_eq_true, beq_iff_eq] at ht
  obtain ⟨h0, h2⟩ := ht
  split at h2
  · rename_i fs hu
    split at h2
    · rename_i f1 f2 f3 hfs
      simp only [Bool.and_eq_true, beq_iff_eq] at h2
      obtain ⟨⟨⟨⟨⟨e1, e2⟩, e3⟩, e4⟩, e5⟩, e6⟩ := h2
      unfold Dat at h
      rw [hu] at h
      obtain ⟨hl, hf⟩ := h
      rw [hfs, h0] at *
      have a := hf f1 (by simp)
      have b := hf f2 (by simp)
      have c := hf f3 (by simp)
      have c4 : P.cellsOf f1.type = 1 := by unfold isI64P at e4; simp only [Bool.and_eq_true, beq_iff_eq] at e4; exact e4.1
      have c5 : P.cellsOf f2.type = 1 := by unfold isI64P at e5; simp only [Bool.and_eq_true, beq_iff_eq] at e5; exact e5.1
      rw [e1, c4] at a
      rw [e2, c5] at b
      rw [e3, cells_of_T.2.1 e6] at c
      obtain ⟨n, hn⟩ := i64P e4 a
      obtain ⟨m, hm⟩ := i64P e5 b
      obtain ⟨z, hz⟩ := bool_cells e6 c
      match cs, hl with
      | [x, y, w], _ =>
        simp only [List.drop_zero, List.take_succ_cons, List.take_zero, List.drop_succ_cons, List.cons.injEq, and_true] at hn hm hz
        exact ⟨⟨n, m, z⟩, by rw [hn, hm, hz]; rfl, trivial⟩
    · cases h2
  · cases h2
def isRowT (P : Program) (t e : TypeId) : Bool := P.cellsOf t == 1 &&
  match P.underlying t with
  | some (.slice d) => d == e
  | _ => false
theorem row_of {t e : TypeId} (h : isRowT P t e = true) : P.cellsOf t = 1 ∧ P.underlying t = some (.slice e) := by
  unfold isRowT at h
  simp only [Bool.and_eq_true, beq_iff_eq] at h
  refine ⟨h.1, ?_⟩
  have h2 := h.2
  split at h2
  · rename_i d hu
    simp only [beq_iff_eq] at h2
    rw [hu, h2]
  · cases h2
abbrev Tr := Int × Int × Int
def tc (t : Tr) : List AV := [.int .i64 t.1, .int .i64 t.2.1, .int .i64 t.2.2]
theorem tc_len (t : Tr) : (tc t).length = 3 := rfl
theorem imm_tc (t : Tr) : ∀ c ∈ tc t, Imm 1 c := imm_three imm_int imm_int imm_int
def isTriT (P : Program) (t : TypeId) : Bool := P.cellsOf t == 3 &&
  match P.underlying t with
  | some (.array m d) => m == 3 && isI64P P d
  | _ => false
theorem tri_cells {k : Nat} {t : TypeId} {cs : List AV} (ht : isTriT P t = true) (h : Dat P (k + 2) t cs) : ∃ s : Tr, cs = tc s ∧ True := by
  unfold isTriT at ht
  simp only [Bool.and_eq_true, beq_iff_eq] at ht
  obtain ⟨h0, h2⟩ := ht
  split at h2
  · rename_i m d hu
    simp only [Bool.and_eq_true, beq_iff_eq] at h2
    obtain ⟨rfl, hd⟩ := h2
    have c1 : P.cellsOf d = 1 := by unfold isI64P at hd; simp only [Bool.and_eq_true, beq_iff_eq] at hd; exact hd.1
    unfold Dat at h
    rw [hu] at h
    obtain ⟨hl, hf⟩ := h
    rw [c1] at hf
    rw [h0] at hl
    obtain ⟨a, ha⟩ := i64P hd (hf 0 (by omega))
    obtain ⟨b, hb⟩ := i64P hd (hf 1 (by omega))
    obtain ⟨c, hc⟩ := i64P hd (hf 2 (by omega))
    match cs, hl with
    | [x, y, w], _ =>
      simp at ha hb hc
      exact ⟨(a, b, c), by rw [ha, hb, hc]; rfl, trivial⟩
  · cases h2
structure Ms where
  pts : List PT
  tris : List Tr
  segs : List Sg
def msc (m : Ms) : List AV := [.is m.pts.length false (m.pts.flatMap ptc), .is m.tris.length false (m.tris.flatMap tc), .is m.segs.length false (m.segs.flatMap sgc)]
def isMeshT (P : Program) (t pt tr sg : TypeId) : Bool := P.cellsOf t == 3 && isPtT P pt && isTriT P tr && isSegT P sg &&
  match P.underlying t with
  | some (.struct fs) =>
    match fs.toList with
    | [f1, f2, f3] => f1.offset == 0 && f2.offset == 1 && f3.offset == 2 && isRowT P f1.type pt && isRowT P f2.type tr && isRowT P f3.type sg
    | _ => false
  | _ => false
theorem mesh_in {t pt tr sg : TypeId} {v : AV} (hag : isAggT P t = true) (hh : isMeshT P t pt tr sg = true) (h : DatV P 9 t v) : ∃ m : Ms, v = .agg (msc m) ∧ ∀ p ∈ m.pts, p.ok := by
  unfold isMeshT at hh
  simp only [Bool.and_eq_true, beq_iff_eq] at hh
  obtain ⟨⟨⟨⟨ct, r1⟩, r2⟩, r3⟩, h2⟩ := hh
  split at h2
  · rename_i fs hu
    split at h2
    · rename_i f1 f2 f3 hfs
      simp only [Bool.and_eq_true, beq_iff_eq] at h2
      obtain ⟨⟨⟨⟨⟨o1, o2⟩, o3⟩, u1⟩, u2⟩, u3⟩ := h2
      obtain ⟨c1, u1⟩ := row_of u1
      obtain ⟨c2, u2⟩ := row_of u2
      obtain ⟨c3, u3⟩ := row_of u3
      obtain ⟨cs, rfl, hd⟩ := agg_in hag h
      unfold Dat at hd
      rw [hu] at hd
      obtain ⟨hl, hf⟩ := hd
      rw [ct] at hl
      rw [hfs] at hf
      have d1 := hf f1 (by simp)
      have d2 := hf f2 (by simp)
      have d3 := hf f3 (by simp)
      rw [o1, c1] at d1
      rw [o2, c2] at d2
      rw [o3, c3] at d3
      obtain ⟨ps, g1, k1⟩ := rowP (k := 7) (f := ptc) (ok := PT.ok) u1 (cells_of_T.2.2.2.2.1 r1) ptc_len (fun cs h => pt_cells r1 h) d1
      obtain ⟨ts, g2, k2⟩ := rowP (k := 7) (f := tc) (ok := fun _ => True) u2 (by unfold isTriT at r2; simp only [Bool.and_eq_true, beq_iff_eq] at r2; exact r2.1) tc_len (fun cs h => tri_cells r2 h) d2
      obtain ⟨ss, g3, k3⟩ := rowP (k := 7) (f := sgc) (ok := fun _ => True) u3 (by unfold isSegT at r3; simp only [Bool.and_eq_true, beq_iff_eq] at r3; exact r3.1) sgc_len (fun cs h => sg_cells r3 h) d3
      refine ⟨⟨ps, ts, ss⟩, ?_, k1⟩
      match cs, hl with
      | [x, y, z], _ =>
        simp only [List.drop_zero, List.take_succ_cons, List.take_zero, List.drop_succ_cons, List.cons.injEq, and_true] at g1 g2 g3
        rw [g1, g2, g3]; rfl
    · cases h2
  · cases h2
theorem imm_msc {m : Ms} : ∀ c ∈ msc m, Imm 2 c := imm_three (imm_is (imm_flat imm_ptc _)) (imm_is (imm_flat imm_tc _)) (imm_is (imm_flat imm_sgc _))
theorem imm_ms {m : Ms} : Imm 12 (.agg (msc m)) := (imm_agg imm_msc).mono (by omega)
end
end Go.Proofs.YtojfiboeghonoaaGreat.Am
