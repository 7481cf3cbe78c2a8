import Derived.Test.YtiblnpnfaadmcaaGreatAmPlain9
import Derived.Test.YtiblnpnfaadmcaaGreatAmPlB
/- The least distance of points and segments. -/
set_option linter.unusedVariables false
set_option maxRecDepth 10000
set_option linter.unusedSimpArgs false
namespace Go.Proofs.YtiblnpnfaadmcaaGreat.Am
open Go

def told (s : Option Rat) (d : Rat) : Option Rat :=
 match s with
 | none => some d
 | some m => if d < m then some d else some m
theorem zyhe : ∀ (l : List Rat) (m : Rat), ∃ m', l.foldl told (some m) = some m' ∧ (m' = m ∨ m' ∈ l) ∧ m' ≤ m ∧ ∀ d ∈ l, m' ≤ d
 | [], m => ⟨m, rfl, .inl rfl, Rat.le_refl, fun _ h => absurd h List.not_mem_nil⟩
 | x :: l, m => by
  by_cases h : x < m
  ·obtain ⟨m', e, h1, h2, h3⟩ := zyhe l x
   refine ⟨m', by rw [List.foldl_cons]; unfold told at e ⊢; simp only [if_pos h]; exact e, .inr ?_, by grind, fun d hd => ?_⟩
   ·rcases h1 with rfl | h1
    ·exact List.mem_cons_self ..
    ·exact List.mem_cons_of_mem _ h1
   ·rcases List.mem_cons.1 hd with rfl | hd
    ·exact h2
    ·exact h3 d hd
  ·obtain ⟨m', e, h1, h2, h3⟩ := zyhe l m
   refine ⟨m', by rw [List.foldl_cons]; unfold told at e ⊢; simp only [if_neg h]; exact e, ?_, h2, fun d hd => ?_⟩
   ·rcases h1 with rfl | h1
    ·exact .inl rfl
    ·exact .inr (List.mem_cons_of_mem _ h1)
   ·rcases List.mem_cons.1 hd with rfl | hd
    ·grind
    ·exact h3 d hd
theorem told_none {l : List Rat} (h : l ≠ []) : ∃ m', l.foldl told none = some m' ∧ m' ∈ l ∧ ∀ d ∈ l, m' ≤ d := by
 cases l with
 | nil => exact absurd rfl h
 | cons x l =>
  obtain ⟨m', e, h1, h2, h3⟩ := zyhe l x
  refine ⟨m', e, ?_, fun d hd => ?_⟩
  ·rcases h1 with rfl | h1
   ·exact List.mem_cons_self ..
   ·exact List.mem_cons_of_mem _ h1
  ·rcases List.mem_cons.1 hd with rfl | hd
   ·exact h2
   ·exact h3 d hd
theorem zybj : ∀ (l : List Rat) (m : Rat), (l.foldl minQ m = m ∨ l.foldl minQ m ∈ l) ∧ l.foldl minQ m ≤ m ∧ ∀ d ∈ l, l.foldl minQ m ≤ d
 | [], m => ⟨.inl rfl, Rat.le_refl, fun _ h => absurd h List.not_mem_nil⟩
 | x :: l, m => by
  obtain ⟨h1, h2, h3⟩ := zybj l (minQ m x)
  have e : minQ m x = m ∨ minQ m x = x := by unfold minQ; split <;> simp
  have l1 : minQ m x ≤ m ∧ minQ m x ≤ x := by unfold minQ; split <;> grind
  rw [List.foldl_cons]
  refine ⟨?_, by grind, fun d hd => ?_⟩
  ·rcases h1 with h1 | h1
   ·rcases e with e | e
    ·exact .inl (by rw [h1, e])
    ·exact .inr (by rw [h1, e]; exact List.mem_cons_self ..)
   ·exact .inr (List.mem_cons_of_mem _ h1)
  ·rcases List.mem_cons.1 hd with rfl | hd
   ·grind
   ·exact h3 d hd
def IsMin (S : Rat → Prop) (m : Rat) : Prop := S m ∧ ∀ d, S d → m ≤ d
theorem IsMin.uniq {S T : Rat → Prop} {m m' : Rat} (h : IsMin S m) (h' : IsMin T m') (e : ∀ d, S d ↔ T d) : m = m' := by
 have h1 := h.2 m' ((e _).2 h'.1)
 have h2 := h'.2 m ((e _).1 h.1)
 grind
section
variable (ps : List (Rat × Rat)) (ss : List Sq)
def dF (i k : Nat) : Rat := farQ (px ps i) (py ps i) (px ps k) (py ps k)
def dN (s : Sq) (i : Nat) : Rat := nearQ (px ps s.1) (py ps s.1) (px ps s.2.1) (py ps s.2.1) (px ps i) (py ps i)
def dA (s t : Sq) : Rat := zy0j (px ps s.1) (py ps s.1) (px ps s.2.1) (py ps s.2.1) (px ps t.1) (py ps t.1) (px ps t.2.1) (py ps t.2.1)
def has (s : Sq) (i : Nat) : Bool := decide (s.1 = i) || decide (s.2.1 = i)
inductive Dst : Rat → Prop
 | far (i k : Nat) (hk : k < i) (hi : i < ps.length) : Dst (dF ps i k)
 | near (i : Nat) (s : Sq) (hi : i < ps.length) (hs : s ∈ ss) (h : has s i = false) : Dst (dN ps s i)
 | apart (i k : Nat) (hk : k < i) (hi : i < ss.length) (h1 : has (sat ss k) (sat ss i).1 = false) (h2 : has (sat ss k) (sat ss i).2.1 = false) : Dst (dA ps (sat ss i) (sat ss k))
def nears (l : List Sq) (i : Nat) : List Rat := (l.filter fun s => !has s i).map fun s => dN ps s i
def zy0k (i : Nat) (l : List Nat) : List Rat := (l.filter fun k => !has (sat ss k) (sat ss i).1 && !has (sat ss k) (sat ss i).2.1).map fun k => dA ps (sat ss i) (sat ss k)
def row1 (i : Nat) : List Rat := (List.range' 0 i).map (dF ps i) ++ nears ps ss i
def row1' (i : Nat) : List Rat := (List.range' (i + 1) (ps.length - (i + 1))).map (dF ps i) ++ nears ps ss i
def row2 (i : Nat) : List Rat := zy0k ps ss i (List.range' 0 i)
def rows2 : List Rat := (List.range' 0 ss.length).flatMap (row2 ps ss)
def allD : List Rat := (List.range' 0 ps.length).flatMap (row1 ps ss) ++ rows2 ps ss
def allR : List Rat := (List.range' 0 ps.length).flatMap (row1' ps ss) ++ rows2 ps ss
variable {ps ss}
theorem mem_nears {i : Nat} {d : Rat} : d ∈ nears ps ss i ↔ ∃ s ∈ ss, has s i = false ∧ d = dN ps s i := by
 unfold nears
 simp only [List.mem_map, List.mem_filter, Bool.not_eq_true']
 constructor
 ·rintro ⟨s, ⟨h1, h2⟩, h3⟩; exact ⟨s, h1, h2, h3.symm⟩
 ·rintro ⟨s, h1, h2, h3⟩; exact ⟨s, ⟨h1, h2⟩, h3.symm⟩
theorem zybg {d : Rat} : d ∈ rows2 ps ss ↔ ∃ i k, k < i ∧ i < ss.length ∧ has (sat ss k) (sat ss i).1 = false ∧ has (sat ss k) (sat ss i).2.1 = false ∧ d = dA ps (sat ss i) (sat ss k) := by
 unfold rows2 row2 zy0k
 simp only [List.mem_flatMap, List.mem_map, List.mem_filter, List.mem_range'_1, Bool.and_eq_true, Bool.not_eq_true', Nat.zero_le, Nat.zero_add, true_and]
 constructor
 ·rintro ⟨i, hi, k, ⟨h1, h2, h3⟩, h4⟩; exact ⟨i, k, h1, hi, h2, h3, h4.symm⟩
 ·rintro ⟨i, k, h1, hi, h2, h3, h4⟩; exact ⟨i, hi, k, ⟨h1, h2, h3⟩, h4.symm⟩
theorem mem_allD {d : Rat} : d ∈ allD ps ss ↔ Dst ps ss d := by
 unfold allD
 rw [List.mem_append, zybg, List.mem_flatMap]
 constructor
 ·rintro (⟨i, hi, h⟩ | ⟨i, k, h1, h2, h3, h4, rfl⟩)
  ·have hi : i < ps.length := by have := List.mem_range'_1.1 hi; omega
   unfold row1 at h
   rcases List.mem_append.1 h with h | h
   ·obtain ⟨k, hk, rfl⟩ := List.mem_map.1 h
    exact .far i k (by have := List.mem_range'_1.1 hk; omega) hi
   ·obtain ⟨s, h1, h2, rfl⟩ := mem_nears.1 h
    exact .near i s hi h1 h2
  ·exact .apart i k h1 h2 h3 h4
 ·rintro (⟨i, k, hk, hi⟩ | ⟨i, s, hi, hs, h⟩ | ⟨i, k, hk, hi, h1, h2⟩)
  ·exact .inl ⟨i, List.mem_range'_1.2 ⟨by omega, by omega⟩, List.mem_append.2 (.inl (List.mem_map.2 ⟨k, List.mem_range'_1.2 ⟨by omega, by omega⟩, rfl⟩))⟩
  ·exact .inl ⟨i, List.mem_range'_1.2 ⟨by omega, by omega⟩, List.mem_append.2 (.inr (mem_nears.2 ⟨s, hs, h, rfl⟩))⟩
  ·exact .inr ⟨i, k, hk, hi, h1, h2, rfl⟩
theorem zy3n {i k : Nat} : dF ps i k = dF ps k i := far_comm
theorem zybf {d : Rat} (hn : 2 ≤ ps.length) : (d = dF ps 0 1 ∨ d ∈ allR ps ss) ↔ Dst ps ss d := by
 unfold allR
 rw [List.mem_append, zybg, List.mem_flatMap]
 constructor
 ·rintro (rfl | ⟨i, hi, h⟩ | ⟨i, k, h1, h2, h3, h4, rfl⟩)
  ·rw [zy3n]; exact .far 1 0 (by omega) (by omega)
  ·have hi : i < ps.length := by have := List.mem_range'_1.1 hi; omega
   unfold row1' at h
   rcases List.mem_append.1 h with h | h
   ·obtain ⟨k, hk, rfl⟩ := List.mem_map.1 h
    have := List.mem_range'_1.1 hk
    rw [zy3n]
    exact .far k i (by omega) (by omega)
   ·obtain ⟨s, h1, h2, rfl⟩ := mem_nears.1 h
    exact .near i s hi h1 h2
  ·exact .apart i k h1 h2 h3 h4
 ·rintro (⟨i, k, hk, hi⟩ | ⟨i, s, hi, hs, h⟩ | ⟨i, k, hk, hi, h1, h2⟩)
  ·rw [zy3n]
   exact .inr (.inl ⟨k, List.mem_range'_1.2 ⟨by omega, by omega⟩, List.mem_append.2 (.inl (List.mem_map.2 ⟨i, List.mem_range'_1.2 ⟨by omega, by omega⟩, rfl⟩))⟩)
  ·exact .inr (.inl ⟨i, List.mem_range'_1.2 ⟨by omega, by omega⟩, List.mem_append.2 (.inr (mem_nears.2 ⟨s, hs, h, rfl⟩))⟩)
  ·exact .inr (.inr ⟨i, k, hk, hi, h1, h2, rfl⟩)
variable (ps ss) in
def zy9j : Rat := ((allD ps ss).foldl told none).getD 0
theorem zy9l (hn : 2 ≤ ps.length) : (allD ps ss).foldl told none = some (zy9j ps ss) ∧ IsMin (Dst ps ss) (zy9j ps ss) := by
 have h1 : dF ps 1 0 ∈ allD ps ss := mem_allD.2 (.far 1 0 (by omega) (by omega))
 obtain ⟨m, e, h2, h3⟩ := told_none (l := allD ps ss) (fun h => by rw [h] at h1; cases h1)
 have el : zy9j ps ss = m := by unfold zy9j; rw [e]; rfl
 rw [el]
 exact ⟨e, mem_allD.1 h2, fun d hd => h3 d (mem_allD.2 hd)⟩
theorem least_ref (hn : 2 ≤ ps.length) : (allR ps ss).foldl minQ (dF ps 0 1) = zy9j ps ss := by
 obtain ⟨h1, h2, h3⟩ := zybj (allR ps ss) (dF ps 0 1)
 refine IsMin.uniq (S := Dst ps ss) (T := Dst ps ss) ⟨(zybf hn).1 h1, fun d hd => ?_⟩ (zy9l hn).2 fun _ => Iff.rfl
 rcases (zybf hn).2 hd with rfl | hd
 ·exact h2
 ·exact h3 d hd
end
end Go.Proofs.YtiblnpnfaadmcaaGreat.Am
