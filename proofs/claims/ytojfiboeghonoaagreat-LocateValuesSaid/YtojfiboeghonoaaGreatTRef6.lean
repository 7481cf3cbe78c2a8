import Derived.Test.YtojfiboeghonoaaGreatAmGp
set_option linter.unusedVariables false
set_option maxRecDepth 10000
set_option maxHeartbeats 0
namespace Go.Proofs.YtojfiboeghonoaaGreat.Am
open Go
/-! gusset gussetref06.Area2 -/
noncomputable def zf1g.fn : AFun := (gp.fn fid.zf1g).getD default
theorem zf1g.fn_eq : gp.fn fid.zf1g = some zf1g.fn := by kernel_rfl
noncomputable def zf1g.f (a0 : AV) (a1 : AV) (a2 : AV) : Option AV :=
  (opBox [] a0).bind fun r1 => (opBox r1.2 a1).bind fun r2 => (opBox r2.2 a2).bind fun r3 => (opLoad (@HAppend.hAppend Heap Heap Heap _ r3.2 [some [.bool false, .str ⟨#[]⟩, .str ⟨#[]⟩]]) (some 6) r2.1).bind fun v4 => (opLoad (@HAppend.hAppend Heap Heap Heap _ r3.2 [some [.bool false, .str ⟨#[]⟩, .str ⟨#[]⟩]]) (some 6) r1.1).bind fun v5 => (byVal (callW gp) (@HAppend.hAppend Heap Heap Heap _ r3.2 [some [.bool false, .str ⟨#[]⟩, .str ⟨#[]⟩]]) fid.zf1x [v4, v5]).bind fun v6 => (opLoad (@HAppend.hAppend Heap Heap Heap _ r3.2 [some [.bool false, .str ⟨#[]⟩, .str ⟨#[]⟩]]) (some 6) r3.1).bind fun v7 => (opLoad (@HAppend.hAppend Heap Heap Heap _ r3.2 [some [.bool false, .str ⟨#[]⟩, .str ⟨#[]⟩]]) (some 6) r1.1).bind fun v8 => (byVal (callW gp) (@HAppend.hAppend Heap Heap Heap _ r3.2 [some [.bool false, .str ⟨#[]⟩, .str ⟨#[]⟩]]) fid.zf1x [v7, v8]).bind fun v9 => (byVal (callW gp) (@HAppend.hAppend Heap Heap Heap _ r3.2 [some [.bool false, .str ⟨#[]⟩, .str ⟨#[]⟩]]) fid.zf1w [v6, v9]).bind fun v10 => (opStore (@HAppend.hAppend Heap Heap Heap _ r3.2 [some [.bool false, .str ⟨#[]⟩, .str ⟨#[]⟩]]) 3 (.rp (List.length (r3.2 : Heap)) 0) v10).bind fun h11 => (opLoad h11 (some 3) (.rp (List.length (r3.2 : Heap)) 0)).bind fun v12 => freeze h11 v12
theorem zf1g.eq (a0 : AV) (a1 : AV) (a2 : AV) : cv gp fid.zf1g [a0, a1, a2] = zf1g.f a0 a1 a2 :=
  (cv_eq gp fid.zf1g [a0, a1, a2] zf1g.fn_eq).trans (by kernel_rfl)

end Go.Proofs.YtojfiboeghonoaaGreat.Am
