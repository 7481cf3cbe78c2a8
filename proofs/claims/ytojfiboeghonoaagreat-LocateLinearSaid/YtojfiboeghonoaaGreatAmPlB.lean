import Derived.Test.YtojfiboeghonoaaGreatAmGeom2w
/- Rows of points and of segments. -/
set_option linter.unusedVariables false
set_option maxRecDepth 10000
set_option linter.unusedSimpArgs false
namespace Go.Proofs.YtojfiboeghonoaaGreat.Am
open Go

structure Sg where
  a : Int
  b : Int
  f : Bool
def sgc (s : Sg) : List AV := [.int .i64 s.a, .int .i64 s.b, .bool s.f]
theorem sgc_len (s : Sg) : (sgc s).length = 3 := rfl
theorem imm_sgc (s : Sg) : ∀ c ∈ sgc s, Imm 1 c := imm_three imm_int imm_int imm_bool
def pc (p : Rat × Rat) : PT := (rt p.1, rt p.2)
def px (ps : List (Rat × Rat)) (i : Nat) : Rat := (ps.getD i (0, 0)).1
def py (ps : List (Rat × Rat)) (i : Nat) : Rat := (ps.getD i (0, 0)).2
def pcs (ps : List (Rat × Rat)) : List AV := (ps.map pc).flatMap ptc
theorem pcs_at {ps : List (Rat × Rat)} {i : Nat} (hi : i < ps.length) : (pcs ps).drop (i * 6) = .bool (decide ((px ps i).num < 0)) :: str (nb (px ps i).num.natAbs) :: str (nb (px ps i).den) :: .bool (decide ((py ps i).num < 0)) :: str (nb (py ps i).num.natAbs) :: str (nb (py ps i).den) :: pcs (ps.drop (i + 1)) := by
  have hm : i < (ps.map pc).length := by rw [List.length_map]; exact hi
  have e : ps.getD i (0, 0) = ps[i] := by simp [List.getD, List.getElem?_eq_getElem hi]
  unfold pcs px py
  rw [drop_flatMap ptc_len, List.drop_eq_getElem_cons hm, List.flatMap_cons, e, List.getElem_map, List.map_drop]
  rfl
theorem imm_pcs (ps : List (Rat × Rat)) : ∀ c ∈ pcs ps, Imm 1 c := imm_flat imm_ptc _
end Go.Proofs.YtojfiboeghonoaaGreat.Am
