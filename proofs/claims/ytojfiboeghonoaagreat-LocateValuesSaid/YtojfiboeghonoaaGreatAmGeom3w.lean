import Derived.Test.YtojfiboeghonoaaGreatAmGeom2w
/- The document's geometry. -/
set_option linter.unusedVariables false
set_option maxRecDepth 10000
set_option linter.unusedSimpArgs false
namespace Go.Proofs.YtojfiboeghonoaaGreat.Am
open Go
section
variable {h : Heap} {ax ay bx b_ cx cy dx dy : Rat}
theorem k_5within (g1 : Rz ax 2000) (g2 : Rz ay 2000) (g3 : Rz bx 2000) (g4 : Rz b_ 2000) (g5 : Rz cx 2000) (g6 : Rz cy 2000) (g7 : Rz dx 2000) (g8 : Rz dy 2000) : byVal (callW gp) h fid.zf0q [pa ax ay, pa bx b_, pa cx cy, pa dx dy] = some (.int .i64 (withinQ ax ay bx b_ cx cy dx dy)) := byVal_imm (imm_L4 imm_pa imm_pa imm_pa imm_pa) (by
  rw [zf0q.eq]
  unfold zf0q.f withinQ
  simp (disch := first | exact dD | fail) only [Wd, W2d, W3d, Nat.reduceAdd, Nat.reduceMul, Nat.reduceSub, k_5orient, sgn_mulQ, mm3])
end
end Go.Proofs.YtojfiboeghonoaaGreat.Am
