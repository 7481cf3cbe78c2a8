import Derived.Test.YtcpmkohlmjakmaaGreatDoorAmGp
set_option linter.unusedVariables false
set_option maxRecDepth 10000
set_option maxHeartbeats 0
namespace Go.Proofs.YtcpmkohlmjakmaaGreatDoor.Am
open Go
/-! gusset gussetref06.Area2 -/
noncomputable def gussetref06_Area2.fn : AFun := (gp.fn fid.gussetref06_Area2).getD default
theorem gussetref06_Area2.fn_eq : gp.fn fid.gussetref06_Area2 = some gussetref06_Area2.fn := by kernel_rfl
noncomputable def gussetref06_Area2.f (a0 : AV) (a1 : AV) (a2 : AV) : Option AV :=
  (opBox [] a0).bind fun r1 => (opBox r1.2 a1).bind fun r2 => (opBox r2.2 a2).bind fun r3 => (opLoad (@HAppend.hAppend Heap Heap Heap _ r3.2 [some [.bool false, .str ⟨#[]⟩, .str ⟨#[]⟩]]) (some 6) r2.1).bind fun v4 => (opLoad (@HAppend.hAppend Heap Heap Heap _ r3.2 [some [.bool false, .str ⟨#[]⟩, .str ⟨#[]⟩]]) (some 6) r1.1).bind fun v5 => (byVal (callW gp) (@HAppend.hAppend Heap Heap Heap _ r3.2 [some [.bool false, .str ⟨#[]⟩, .str ⟨#[]⟩]]) fid.gussetref04_Minus [v4, v5]).bind fun v6 => (opLoad (@HAppend.hAppend Heap Heap Heap _ r3.2 [some [.bool false, .str ⟨#[]⟩, .str ⟨#[]⟩]]) (some 6) r3.1).bind fun v7 => (opLoad (@HAppend.hAppend Heap Heap Heap _ r3.2 [some [.bool false, .str ⟨#[]⟩, .str ⟨#[]⟩]]) (some 6) r1.1).bind fun v8 => (byVal (callW gp) (@HAppend.hAppend Heap Heap Heap _ r3.2 [some [.bool false, .str ⟨#[]⟩, .str ⟨#[]⟩]]) fid.gussetref04_Minus [v7, v8]).bind fun v9 => (byVal (callW gp) (@HAppend.hAppend Heap Heap Heap _ r3.2 [some [.bool false, .str ⟨#[]⟩, .str ⟨#[]⟩]]) fid.gussetref04_Cross [v6, v9]).bind fun v10 => (opStore (@HAppend.hAppend Heap Heap Heap _ r3.2 [some [.bool false, .str ⟨#[]⟩, .str ⟨#[]⟩]]) 3 (.rp (List.length (r3.2 : Heap)) 0) v10).bind fun h11 => (opLoad h11 (some 3) (.rp (List.length (r3.2 : Heap)) 0)).bind fun v12 => freeze h11 v12
theorem gussetref06_Area2.eq (a0 : AV) (a1 : AV) (a2 : AV) : cv gp fid.gussetref06_Area2 [a0, a1, a2] = gussetref06_Area2.f a0 a1 a2 :=
  (cv_eq gp fid.gussetref06_Area2 [a0, a1, a2] gussetref06_Area2.fn_eq).trans (by kernel_rfl)

/-! gusset gussetref06.Middle -/
noncomputable def gussetref06_Middle.fn : AFun := (gp.fn fid.gussetref06_Middle).getD default
theorem gussetref06_Middle.fn_eq : gp.fn fid.gussetref06_Middle = some gussetref06_Middle.fn := by kernel_rfl
noncomputable def gussetref06_Middle.f (a0 : AV) (a1 : AV) : Option AV :=
  (opBox [] a0).bind fun r1 => (opBox r1.2 a1).bind fun r2 => (opLoad (@HAppend.hAppend Heap Heap Heap _ r2.2 [some [.bool false, .str ⟨#[]⟩, .str ⟨#[]⟩, .bool false, .str ⟨#[]⟩, .str ⟨#[]⟩]]) (some 6) r1.1).bind fun v3 => (opLoad (@HAppend.hAppend Heap Heap Heap _ r2.2 [some [.bool false, .str ⟨#[]⟩, .str ⟨#[]⟩, .bool false, .str ⟨#[]⟩, .str ⟨#[]⟩]]) (some 6) r2.1).bind fun v4 => (byVal (callW gp) (@HAppend.hAppend Heap Heap Heap _ r2.2 [some [.bool false, .str ⟨#[]⟩, .str ⟨#[]⟩, .bool false, .str ⟨#[]⟩, .str ⟨#[]⟩]]) fid.gussetref04_Plus [v3, v4]).bind fun v5 => (byVal (callW gp) (@HAppend.hAppend Heap Heap Heap _ r2.2 [some [.bool false, .str ⟨#[]⟩, .str ⟨#[]⟩, .bool false, .str ⟨#[]⟩, .str ⟨#[]⟩]]) fid.gussetref03_Frac [(.int .i64 1), (.int .i64 2)]).bind fun v6 => (byVal (callW gp) (@HAppend.hAppend Heap Heap Heap _ r2.2 [some [.bool false, .str ⟨#[]⟩, .str ⟨#[]⟩, .bool false, .str ⟨#[]⟩, .str ⟨#[]⟩]]) fid.gussetref04_Scale [v5, v6]).bind fun v7 => (opStore (@HAppend.hAppend Heap Heap Heap _ r2.2 [some [.bool false, .str ⟨#[]⟩, .str ⟨#[]⟩, .bool false, .str ⟨#[]⟩, .str ⟨#[]⟩]]) 6 (.rp (List.length (r2.2 : Heap)) 0) v7).bind fun h8 => (opLoad h8 (some 6) (.rp (List.length (r2.2 : Heap)) 0)).bind fun v9 => freeze h8 v9
theorem gussetref06_Middle.eq (a0 : AV) (a1 : AV) : cv gp fid.gussetref06_Middle [a0, a1] = gussetref06_Middle.f a0 a1 :=
  (cv_eq gp fid.gussetref06_Middle [a0, a1] gussetref06_Middle.fn_eq).trans (by kernel_rfl)

end Go.Proofs.YtcpmkohlmjakmaaGreatDoor.Am