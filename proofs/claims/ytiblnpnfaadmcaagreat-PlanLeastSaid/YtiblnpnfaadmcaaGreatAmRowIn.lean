import Derived.Test.YtiblnpnfaadmcaaGreatAmPlB
import Derived.Test.YtiblnpnfaadmcaaGreatAmV
/- Rows of points and of segments as arguments. -/
set_option linter.unusedVariables false
set_option maxRecDepth 10000
set_option linter.unusedSimpArgs false
namespace Go.Proofs.YtiblnpnfaadmcaaGreat.Am
open Go

section
variable {P : Program}
theorem chunkP {α : Type} {f : α → List AV} {c : Nat} {ok : α → Prop} (hf : ∀ x, (f x).length = c) : ∀ (n : Nat) (xs : List AV), xs.length = n * c → (∀ i, i < n → ∃ x, (xs.drop (i * c)).take c = f x ∧ ok x) → ∃ l : List α, xs = l.flatMap f ∧ l.length = n ∧ ∀ x ∈ l, ok x
 | 0, xs, hl, _ => by
  have : xs = [] := List.length_eq_zero_iff.1 (by simpa using hl)
  subst this
  exact ⟨[], rfl, rfl, by simp⟩
 | n + 1, xs, hl, h => by
  obtain ⟨x, hx, ox⟩ := h 0 (by omega)
  rw [Nat.zero_mul, List.drop_zero] at hx
  rw [Nat.add_mul, Nat.one_mul] at hl
  obtain ⟨l, h1, h2, h3⟩ := chunkP hf n (xs.drop c) (by rw [List.length_drop]; omega) fun i hi => by
   have := h (i + 1) (by omega)
   rwa [Nat.add_mul, Nat.one_mul, Nat.add_comm, ← List.drop_drop] at this
  refine ⟨x :: l, ?_, by simp [h2], ?_⟩
  ·rw [List.flatMap_cons, ← hx, ← h1, List.take_append_drop]
  ·intro y hy
   rcases List.mem_cons.1 hy with rfl | hy
   ·exact ox
   ·exact h3 y hy
theorem rowP {k : Nat} {t e : TypeId} {cs : List AV} {α : Type} {f : α → List AV} {ok : α → Prop} {c : Nat} (hu : P.underlying t = some (.slice e)) (hc : P.cellsOf e = c) (hf : ∀ x, (f x).length = c) (he : ∀ cs, Dat P k e cs → ∃ x, cs = f x ∧ ok x) (hd : Dat P (k + 1) t cs) :
  ∃ l : List α, cs = [.is l.length false (l.flatMap f)] ∧ ∀ x ∈ l, ok x := by
 unfold Dat at hd
 rw [hu] at hd
 obtain ⟨n, xs, rfl, hn, hl, hx⟩ := hd
 rw [hc] at hl hx
 obtain ⟨l, h1, h2, h3⟩ := chunkP hf n xs hl fun i hi => he _ (hx i hi)
 exact ⟨l, by rw [h1, ← h2], h3⟩
def zy84 (P : Program) (t : TypeId) : Bool := P.cellsOf t == 1 &&
 match P.underlying t with
 | some (.int .i64) => true
 | _ => false
theorem i64P {k : Nat} {t : TypeId} {cs : List AV} (h : zy84 P t = true) (hd : Dat P (k + 1) t cs) : ∃ n, cs = [.int .i64 n] := by
 unfold zy84 at h
 simp only [Bool.and_eq_true, beq_iff_eq] at h
 have h2 := h.2
 split at h2
 ·rename_i hu
  unfold Dat at hd
  rw [hu] at hd
  obtain ⟨n, hn, _⟩ := hd
  exact ⟨n, hn⟩
 ·cases h2
def isSegT (P : Program) (t : TypeId) : Bool := P.cellsOf t == 3 &&
 match P.underlying t with
 | some (.struct fs) =>
  match fs.toList with
  | [f1, f2, f3] => f1.offset == 0 && f2.offset == 1 && f3.offset == 2 && zy84 P f1.type && zy84 P f2.type && zy83 P f3.type
  | _ => false
 | _ => false
theorem sg_cells {k : Nat} {t : TypeId} {cs : List AV} (ht : isSegT P t = true) (h : Dat P (k + 2) t cs) : ∃ s : Sg, cs = sgc s ∧ True := by
 unfold isSegT at ht
 simp only [Bool.and_eq_true, beq_iff_eq] at ht
 obtain ⟨h0, h2⟩ := ht
 split at h2
 ·rename_i fs hu
  split at h2
  ·rename_i f1 f2 f3 hfs
   simp only [Bool.and_eq_true, beq_iff_eq] at h2
   obtain ⟨⟨⟨⟨⟨e1, e2⟩, e3⟩, e4⟩, e5⟩, e6⟩ := h2
   unfold Dat at h
   rw [hu] at h
   obtain ⟨hl, hf⟩ := h
   rw [hfs, h0] at *
   have a := hf f1 (by simp)
   have b := hf f2 (by simp)
   have c := hf f3 (by simp)
   have c4 : P.cellsOf f1.type = 1 := by unfold zy84 at e4; simp only [Bool.and_eq_true, beq_iff_eq] at e4; exact e4.1
   have c5 : P.cellsOf f2.type = 1 := by unfold zy84 at e5; simp only [Bool.and_eq_true, beq_iff_eq] at e5; exact e5.1
   rw [e1, c4] at a
   rw [e2, c5] at b
   rw [e3, cells_of_T.2.1 e6] at c
   obtain ⟨n, hn⟩ := i64P e4 a
   obtain ⟨m, hm⟩ := i64P e5 b
   obtain ⟨z, hz⟩ := zy1d e6 c
   match cs, hl with
   | [x, y, w], _ =>
    simp only [List.drop_zero, List.take_succ_cons, List.take_zero, List.drop_succ_cons, List.cons.injEq, and_true] at hn hm hz
    exact ⟨⟨n, m, z⟩, by rw [hn, hm, hz]; rfl, trivial⟩
  ·cases h2
 ·cases h2
def isRowT (P : Program) (t e : TypeId) : Bool := P.cellsOf t == 1 &&
 match P.underlying t with
 | some (.slice d) => d == e
 | _ => false
theorem row_of {t e : TypeId} (h : isRowT P t e = true) : P.cellsOf t = 1 ∧ P.underlying t = some (.slice e) := by
 unfold isRowT at h
 simp only [Bool.and_eq_true, beq_iff_eq] at h
 refine ⟨h.1, ?_⟩
 have h2 := h.2
 split at h2
 ·rename_i d hu
  simp only [beq_iff_eq] at h2
  rw [hu, h2]
 ·cases h2
theorem pts_in {t pt : TypeId} {v : AV} (hag : zy82 P t = false) (h1 : isRowT P t pt = true) (h2 : isPtT P pt = true) (h : DatV P 9 t v) : ∃ l : List PT, v = .is l.length false (l.flatMap ptc) ∧ ∀ p ∈ l, p.ok := by
 obtain ⟨c1, u1⟩ := row_of h1
 unfold DatV at h
 rw [if_neg (by rw [hag]; simp)] at h
 obtain ⟨ps, g1, k1⟩ := rowP (k := 8) (f := ptc) (ok := PT.ok) u1 (cells_of_T.2.2.2.2.1 h2) zye8 (fun cs h => pt_cells h2 h) h
 exact ⟨ps, by simpa using g1, k1⟩
theorem sgs_in {t sg : TypeId} {v : AV} (hag : zy82 P t = false) (h1 : isRowT P t sg = true) (h2 : isSegT P sg = true) (h : DatV P 9 t v) : ∃ l : List Sg, v = .is l.length false (l.flatMap sgc) := by
 obtain ⟨c1, u1⟩ := row_of h1
 unfold DatV at h
 rw [if_neg (by rw [hag]; simp)] at h
 obtain ⟨ss, g1, k1⟩ := rowP (k := 8) (f := sgc) (ok := fun _ => True) u1 (by unfold isSegT at h2; simp only [Bool.and_eq_true, beq_iff_eq] at h2; exact h2.1) zyg0 (fun cs h => sg_cells h2 h) h
 exact ⟨ss, by simpa using g1⟩
abbrev Tr := Int × Int × Int
structure Ms where
 pts : List PT
 tris : List Tr
 segs : List Sg
end
end Go.Proofs.YtiblnpnfaadmcaaGreat.Am
