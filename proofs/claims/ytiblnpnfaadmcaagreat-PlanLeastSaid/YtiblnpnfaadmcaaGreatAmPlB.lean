import Derived.Test.YtiblnpnfaadmcaaGreatAmGeom2w
/- Rows of points and of segments. -/
set_option linter.unusedVariables false
set_option maxRecDepth 10000
set_option linter.unusedSimpArgs false
namespace Go.Proofs.YtiblnpnfaadmcaaGreat.Am
open Go

structure Sg where
 a : Int
 b : Int
 f : Bool
def sgc (s : Sg) : List AV := [.int .i64 s.a, .int .i64 s.b, .bool s.f]
theorem zyg0 (s : Sg) : (sgc s).length = 3 := rfl
theorem zy7r (s : Sg) : ∀ c ∈ sgc s, Imm 1 c := zy7s imm_int imm_int imm_bool
theorem imm_sg {s : Sg} : Imm 12 (.agg (sgc s)) := (zy77 (zy7r s)).mono (by omega)
theorem take_fm {α : Type} {f : α → List AV} {n : Nat} (hf : ∀ x, (f x).length = n) : ∀ (xs : List α) (i : Nat), (xs.flatMap f).take (i * n) = (xs.take i).flatMap f
 | xs, 0 => by simp
 | [], i + 1 => by simp
 | x :: xs, i + 1 => by
  rw [List.flatMap_cons, List.take_succ_cons, List.flatMap_cons, Nat.add_mul, Nat.one_mul, Nat.add_comm, ← hf x, List.take_append, List.take_of_length_le (by omega)]
  rw [show (f x).length + i * (f x).length - (f x).length = i * (f x).length by omega, hf x, take_fm hf xs i]
theorem slc_hd {α : Type} {f : α → List AV} {sz n i : Nat} {fl : Bool} {xs : List α} {k : IntKind} (hf : ∀ x, (f x).length = sz) (h : i ≤ n) : opSlc sz (.is n fl (xs.flatMap f)) none (some (.int k (i : Int))) none = some (.is i (zy6b none fl i n n) ((xs.take i).flatMap f)) := by
 rw [← take_fm hf]
 have h0 : (0 : Int) ≤ (i : Int) := by omega
 simp only [opSlc, bnd, if_pos h0, Option.bind_some, Int.toNat_natCast]
 rw [if_pos ⟨by omega, h, by omega⟩]
 simp
def pc (p : Rat × Rat) : PT := (rt p.1, rt p.2)
abbrev Sq := Nat × Nat × Bool
def sq_ (s : Sq) : Sg := ⟨s.1, s.2.1, s.2.2⟩
def px (ps : List (Rat × Rat)) (i : Nat) : Rat := (ps.getD i (0, 0)).1
def py (ps : List (Rat × Rat)) (i : Nat) : Rat := (ps.getD i (0, 0)).2
def pcs (ps : List (Rat × Rat)) : List AV := (ps.map pc).flatMap ptc
def scs (ss : List Sq) : List AV := (ss.map sq_).flatMap sgc
theorem zye3 {ps : List (Rat × Rat)} {i : Nat} (hi : i < ps.length) : (pcs ps).drop (i * 6) = .bool (decide ((px ps i).num < 0)) :: str (nb (px ps i).num.natAbs) :: str (nb (px ps i).den) :: .bool (decide ((py ps i).num < 0)) :: str (nb (py ps i).num.natAbs) :: str (nb (py ps i).den) :: pcs (ps.drop (i + 1)) := by
 have hm : i < (ps.map pc).length := by rw [List.length_map]; exact hi
 have e : ps.getD i (0, 0) = ps[i] := by simp [List.getD, List.getElem?_eq_getElem hi]
 unfold pcs px py
 rw [zy4f zye8, List.drop_eq_getElem_cons hm, List.flatMap_cons, e, List.getElem_map, List.map_drop]
 rfl
def sat (ss : List Sq) (i : Nat) : Sq := ss.getD i (0, 0, false)
theorem zyfo {ss : List Sq} {i : Nat} (hi : i < ss.length) : (scs ss).drop (i * 3) = .int .i64 ((sat ss i).1 : Int) :: .int .i64 ((sat ss i).2.1 : Int) :: .bool (sat ss i).2.2 :: scs (ss.drop (i + 1)) := by
 have hm : i < (ss.map sq_).length := by rw [List.length_map]; exact hi
 have e : ss.getD i (0, 0, false) = ss[i] := by simp [List.getD, List.getElem?_eq_getElem hi]
 unfold scs sat
 rw [zy4f zyg0, List.drop_eq_getElem_cons hm, List.flatMap_cons, e, List.getElem_map, List.map_drop]
 rfl
end Go.Proofs.YtiblnpnfaadmcaaGreat.Am
