import Derived.Test.YtmklpomcdnflbaaGreatAmGp
set_option linter.unusedVariables false
set_option maxRecDepth 10000
set_option maxHeartbeats 0
namespace Go.Proofs.YtmklpomcdnflbaaGreat.Am
open Go
/-! gusset gussetref06.Area2 -/
noncomputable def gussetref06_Area2.fn : AFun := (gp.fn fid.gussetref06_Area2).getD default
theorem gussetref06_Area2.fn_eq : gp.fn fid.gussetref06_Area2 = some gussetref06_Area2.fn := by kernel_rfl
noncomputable def gussetref06_Area2.f (a0 : AV) (a1 : AV) (a2 : AV) : Option AV :=
  (opBox [] a0).bind fun r1 => (opBox r1.2 a1).bind fun r2 => (opBox r2.2 a2).bind fun r3 => (opLoad (r3.2 ++ [some [.bool false, .str ⟨#[]⟩, .str ⟨#[]⟩]]) (some 6) r2.1).bind fun v4 => (opLoad (r3.2 ++ [some [.bool false, .str ⟨#[]⟩, .str ⟨#[]⟩]]) (some 6) r1.1).bind fun v5 => (byVal (callW gp) (r3.2 ++ [some [.bool false, .str ⟨#[]⟩, .str ⟨#[]⟩]]) fid.gussetref04_Minus [v4, v5]).bind fun v6 => (opLoad (r3.2 ++ [some [.bool false, .str ⟨#[]⟩, .str ⟨#[]⟩]]) (some 6) r3.1).bind fun v7 => (opLoad (r3.2 ++ [some [.bool false, .str ⟨#[]⟩, .str ⟨#[]⟩]]) (some 6) r1.1).bind fun v8 => (byVal (callW gp) (r3.2 ++ [some [.bool false, .str ⟨#[]⟩, .str ⟨#[]⟩]]) fid.gussetref04_Minus [v7, v8]).bind fun v9 => (byVal (callW gp) (r3.2 ++ [some [.bool false, .str ⟨#[]⟩, .str ⟨#[]⟩]]) fid.gussetref04_Cross [v6, v9]).bind fun v10 => (opStore (r3.2 ++ [some [.bool false, .str ⟨#[]⟩, .str ⟨#[]⟩]]) 3 (.rp (List.length (r3.2 : Heap)) 0) v10).bind fun h11 => (opLoad h11 (some 3) (.rp (List.length (r3.2 : Heap)) 0)).bind fun v12 => freeze h11 v12
theorem gussetref06_Area2.eq (a0 : AV) (a1 : AV) (a2 : AV) : cv gp fid.gussetref06_Area2 [a0, a1, a2] = gussetref06_Area2.f a0 a1 a2 :=
  (cv_eq gp fid.gussetref06_Area2 [a0, a1, a2] gussetref06_Area2.fn_eq).trans (by kernel_rfl)

end Go.Proofs.YtmklpomcdnflbaaGreat.Am