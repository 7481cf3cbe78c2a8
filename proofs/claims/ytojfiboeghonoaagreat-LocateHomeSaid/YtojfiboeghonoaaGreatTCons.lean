import Derived.Test.YtojfiboeghonoaaGreatAmGp
set_option linter.unusedVariables false
set_option maxRecDepth 10000
set_option maxHeartbeats 0
namespace Go.Proofs.YtojfiboeghonoaaGreat.Am
open Go
/-! gusset cons.Area2 -/
noncomputable def cons_Area2.fn : AFun := (gp.fn fid.cons_Area2).getD default
theorem cons_Area2.fn_eq : gp.fn fid.cons_Area2 = some cons_Area2.fn := by kernel_rfl
noncomputable def cons_Area2.f (a0 : AV) (a1 : AV) (a2 : AV) : Option AV :=
  (opBox [] a0).bind fun r1 => (opBox r1.2 a1).bind fun r2 => (opBox r2.2 a2).bind fun r3 => (opLoad (@HAppend.hAppend Heap Heap Heap _ r3.2 [some [.bool false, .str ⟨#[]⟩, .str ⟨#[]⟩]]) (some 6) r1.1).bind fun v4 => (opLoad (@HAppend.hAppend Heap Heap Heap _ r3.2 [some [.bool false, .str ⟨#[]⟩, .str ⟨#[]⟩]]) (some 6) r2.1).bind fun v5 => (opLoad (@HAppend.hAppend Heap Heap Heap _ r3.2 [some [.bool false, .str ⟨#[]⟩, .str ⟨#[]⟩]]) (some 6) r3.1).bind fun v6 => (opBslc 6 3 [.bool false, .str ⟨#[]⟩, .str ⟨#[]⟩, .bool false, .str ⟨#[]⟩, .str ⟨#[]⟩] [(0, v4), (1, v5), (2, v6)]).bind fun v7 => (byVal (callW gp) (@HAppend.hAppend Heap Heap Heap _ r3.2 [some [.bool false, .str ⟨#[]⟩, .str ⟨#[]⟩]]) fid.cons_asked [v7]).bind fun v8 => (opBin .neq v8 (.int .i64 0)).bind fun v9 => condK v9 ((opBld [.bool false, .str ⟨#[]⟩, .str ⟨#[]⟩] []).bind fun v10 => (opStore (@HAppend.hAppend Heap Heap Heap _ r3.2 [some [.bool false, .str ⟨#[]⟩, .str ⟨#[]⟩]]) 3 (.rp (List.length (r3.2 : Heap)) 0) v10).bind fun h11 => (opLoad h11 (some 3) (.rp (List.length (r3.2 : Heap)) 0)).bind fun v12 => freeze h11 (.tup [v12, v8])) ((opLoad (@HAppend.hAppend Heap Heap Heap _ r3.2 [some [.bool false, .str ⟨#[]⟩, .str ⟨#[]⟩]]) (some 6) r2.1).bind fun v13 => (opLoad (@HAppend.hAppend Heap Heap Heap _ r3.2 [some [.bool false, .str ⟨#[]⟩, .str ⟨#[]⟩]]) (some 6) r1.1).bind fun v14 => (byVal (callW gp) (@HAppend.hAppend Heap Heap Heap _ r3.2 [some [.bool false, .str ⟨#[]⟩, .str ⟨#[]⟩]]) fid.cons_minus [v13, v14]).bind fun v15 => (opLoad (@HAppend.hAppend Heap Heap Heap _ r3.2 [some [.bool false, .str ⟨#[]⟩, .str ⟨#[]⟩]]) (some 6) r3.1).bind fun v16 => (opLoad (@HAppend.hAppend Heap Heap Heap _ r3.2 [some [.bool false, .str ⟨#[]⟩, .str ⟨#[]⟩]]) (some 6) r1.1).bind fun v17 => (byVal (callW gp) (@HAppend.hAppend Heap Heap Heap _ r3.2 [some [.bool false, .str ⟨#[]⟩, .str ⟨#[]⟩]]) fid.cons_minus [v16, v17]).bind fun v18 => (byVal (callW gp) (@HAppend.hAppend Heap Heap Heap _ r3.2 [some [.bool false, .str ⟨#[]⟩, .str ⟨#[]⟩]]) fid.cons_cross [v15, v18]).bind fun v19 => (opStore (@HAppend.hAppend Heap Heap Heap _ r3.2 [some [.bool false, .str ⟨#[]⟩, .str ⟨#[]⟩]]) 3 (.rp (List.length (r3.2 : Heap)) 0) v19).bind fun h20 => (opLoad h20 (some 3) (.rp (List.length (r3.2 : Heap)) 0)).bind fun v21 => freeze h20 (.tup [v21, (.int .i64 0)]))
theorem cons_Area2.eq (a0 : AV) (a1 : AV) (a2 : AV) : cv gp fid.cons_Area2 [a0, a1, a2] = cons_Area2.f a0 a1 a2 :=
  (cv_eq gp fid.cons_Area2 [a0, a1, a2] cons_Area2.fn_eq).trans (by kernel_rfl)

/-! gusset cons.asked -/
noncomputable def cons_asked.fn : AFun := (gp.fn fid.cons_asked).getD default
theorem cons_asked.fn_eq : gp.fn fid.cons_asked = some cons_asked.fn := by kernel_rfl
noncomputable def cons_asked.l0 (y7 : AV) (y8 : AV) (y9 : AV) (hh : Heap) : Option AV := loopAt gp cons_asked.fn [true, false, true, false] (fun v h => freeze h v) ⟨frame 24 [(7, y7), (8, y8), (9, y9)], hh⟩
noncomputable def cons_asked.f (a0 : AV) : Option AV :=
  (opLen false a0).bind fun v1 => cons_asked.l0 a0 v1 (.int .i64 0) []
theorem cons_asked.l0_eq (y7 : AV) (y8 : AV) (y9 : AV) (hh : Heap) : cons_asked.l0 y7 y8 y9 hh =
    ((opBin .lss y9 y8).bind fun v2 => condK v2 ((opSidx 6 y7 y9).bind fun v3 => (opLoad hh (some 6) v3).bind fun v4 => (opStore (@HAppend.hAppend Heap Heap Heap _ hh [some [.bool false, .str ⟨#[]⟩, .str ⟨#[]⟩, .bool false, .str ⟨#[]⟩, .str ⟨#[]⟩]]) 6 (.rp (List.length (hh : Heap)) 0) v4).bind fun h5 => (opLoad h5 (some 6) (.rp (List.length (hh : Heap)) 0)).bind fun v6 => (opLoad h5 (some 6) (.rp (List.length (hh : Heap)) 0)).bind fun v7 => (opLoad h5 (some 6) (.rp (List.length (hh : Heap)) 0)).bind fun v8 => (byVal (callW gp) h5 fid.geom_Orient [v6, v7, v8]).bind fun v9 => (opExt 0 v9).bind fun v10 => (opExt 1 v9).bind fun v11 => (opBin .neq v11 (.int .i64 0)).bind fun v12 => condK v12 (freeze h5 v11) ((opBin .add y9 (.int .i64 1)).bind fun v13 => cons_asked.l0 y7 y8 v13 h5)) (freeze hh (.int .i64 0))) :=
  (loopAt_eq gp cons_asked.fn [true, false, true, false] (fun v h => freeze h v) ⟨frame 24 [(7, y7), (8, y8), (9, y9)], hh⟩).trans (by kernel_rfl)
theorem cons_asked.eq (a0 : AV) : cv gp fid.cons_asked [a0] = cons_asked.f a0 :=
  (cv_eq gp fid.cons_asked [a0] cons_asked.fn_eq).trans (by kernel_rfl)

/-! gusset cons.cross -/
noncomputable def cons_cross.fn : AFun := (gp.fn fid.cons_cross).getD default
theorem cons_cross.fn_eq : gp.fn fid.cons_cross = some cons_cross.fn := by kernel_rfl
noncomputable def cons_cross.f (a0 : AV) (a1 : AV) : Option AV :=
  (opBox [] a0).bind fun r1 => (opBox r1.2 a1).bind fun r2 => (opLoad (@HAppend.hAppend Heap Heap Heap _ r2.2 [some [.bool false, .str ⟨#[]⟩, .str ⟨#[]⟩]]) (some 6) r1.1).bind fun v3 => (opLoad (@HAppend.hAppend Heap Heap Heap _ r2.2 [some [.bool false, .str ⟨#[]⟩, .str ⟨#[]⟩]]) (some 6) r2.1).bind fun v4 => (byVal (callW gp) (@HAppend.hAppend Heap Heap Heap _ r2.2 [some [.bool false, .str ⟨#[]⟩, .str ⟨#[]⟩]]) fid.vec_Cross [v3, v4]).bind fun v5 => (opExt 0 v5).bind fun v6 => (opExt 1 v5).bind fun v7 => (opStore (@HAppend.hAppend Heap Heap Heap _ (@HAppend.hAppend Heap Heap Heap _ r2.2 [some [.bool false, .str ⟨#[]⟩, .str ⟨#[]⟩]]) [some [.bool false, .str ⟨#[]⟩, .str ⟨#[]⟩]]) 3 (.rp (List.length ((@HAppend.hAppend Heap Heap Heap _ r2.2 [some [.bool false, .str ⟨#[]⟩, .str ⟨#[]⟩]]) : Heap)) 0) v6).bind fun h8 => (opLoad h8 (some 3) (.rp (List.length ((@HAppend.hAppend Heap Heap Heap _ r2.2 [some [.bool false, .str ⟨#[]⟩, .str ⟨#[]⟩]]) : Heap)) 0)).bind fun v9 => (opStore h8 3 (.rp (List.length (r2.2 : Heap)) 0) v9).bind fun h10 => (opLoad h10 (some 3) (.rp (List.length (r2.2 : Heap)) 0)).bind fun v11 => freeze h10 v11
theorem cons_cross.eq (a0 : AV) (a1 : AV) : cv gp fid.cons_cross [a0, a1] = cons_cross.f a0 a1 :=
  (cv_eq gp fid.cons_cross [a0, a1] cons_cross.fn_eq).trans (by kernel_rfl)

/-! gusset cons.minus -/
noncomputable def cons_minus.fn : AFun := (gp.fn fid.cons_minus).getD default
theorem cons_minus.fn_eq : gp.fn fid.cons_minus = some cons_minus.fn := by kernel_rfl
noncomputable def cons_minus.f (a0 : AV) (a1 : AV) : Option AV :=
  (opBox [] a0).bind fun r1 => (opBox r1.2 a1).bind fun r2 => (opLoad (@HAppend.hAppend Heap Heap Heap _ r2.2 [some [.bool false, .str ⟨#[]⟩, .str ⟨#[]⟩, .bool false, .str ⟨#[]⟩, .str ⟨#[]⟩]]) (some 6) r1.1).bind fun v3 => (opLoad (@HAppend.hAppend Heap Heap Heap _ r2.2 [some [.bool false, .str ⟨#[]⟩, .str ⟨#[]⟩, .bool false, .str ⟨#[]⟩, .str ⟨#[]⟩]]) (some 6) r2.1).bind fun v4 => (byVal (callW gp) (@HAppend.hAppend Heap Heap Heap _ r2.2 [some [.bool false, .str ⟨#[]⟩, .str ⟨#[]⟩, .bool false, .str ⟨#[]⟩, .str ⟨#[]⟩]]) fid.vec_Minus [v3, v4]).bind fun v5 => (opExt 0 v5).bind fun v6 => (opExt 1 v5).bind fun v7 => (opStore (@HAppend.hAppend Heap Heap Heap _ (@HAppend.hAppend Heap Heap Heap _ r2.2 [some [.bool false, .str ⟨#[]⟩, .str ⟨#[]⟩, .bool false, .str ⟨#[]⟩, .str ⟨#[]⟩]]) [some [.bool false, .str ⟨#[]⟩, .str ⟨#[]⟩, .bool false, .str ⟨#[]⟩, .str ⟨#[]⟩]]) 6 (.rp (List.length ((@HAppend.hAppend Heap Heap Heap _ r2.2 [some [.bool false, .str ⟨#[]⟩, .str ⟨#[]⟩, .bool false, .str ⟨#[]⟩, .str ⟨#[]⟩]]) : Heap)) 0) v6).bind fun h8 => (opLoad h8 (some 6) (.rp (List.length ((@HAppend.hAppend Heap Heap Heap _ r2.2 [some [.bool false, .str ⟨#[]⟩, .str ⟨#[]⟩, .bool false, .str ⟨#[]⟩, .str ⟨#[]⟩]]) : Heap)) 0)).bind fun v9 => (opStore h8 6 (.rp (List.length (r2.2 : Heap)) 0) v9).bind fun h10 => (opLoad h10 (some 6) (.rp (List.length (r2.2 : Heap)) 0)).bind fun v11 => freeze h10 v11
theorem cons_minus.eq (a0 : AV) (a1 : AV) : cv gp fid.cons_minus [a0, a1] = cons_minus.f a0 a1 :=
  (cv_eq gp fid.cons_minus [a0, a1] cons_minus.fn_eq).trans (by kernel_rfl)

end Go.Proofs.YtojfiboeghonoaaGreat.Am
