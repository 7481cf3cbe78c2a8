import Derived.Test.YtojfiboeghonoaaGreatAmGp
set_option linter.unusedVariables false
set_option maxRecDepth 10000
set_option maxHeartbeats 0
namespace Go.Proofs.YtojfiboeghonoaaGreat.Am
open Go
/-! gusset cons.Area2 -/
noncomputable def zf1b.fn : AFun := (gp.fn fid.zf1b).getD default
theorem zf1b.fn_eq : gp.fn fid.zf1b = some zf1b.fn := by kernel_rfl
noncomputable def zf1b.f (a0 : AV) (a1 : AV) (a2 : AV) : Option AV :=
  (opBox [] a0).bind fun r1 => (opBox r1.2 a1).bind fun r2 => (opBox r2.2 a2).bind fun r3 => (opLoad (@HAppend.hAppend Heap Heap Heap _ r3.2 [some [.bool false, .str ⟨#[]⟩, .str ⟨#[]⟩]]) (some 6) r1.1).bind fun v4 => (opLoad (@HAppend.hAppend Heap Heap Heap _ r3.2 [some [.bool false, .str ⟨#[]⟩, .str ⟨#[]⟩]]) (some 6) r2.1).bind fun v5 => (opLoad (@HAppend.hAppend Heap Heap Heap _ r3.2 [some [.bool false, .str ⟨#[]⟩, .str ⟨#[]⟩]]) (some 6) r3.1).bind fun v6 => (opBslc 6 3 [.bool false, .str ⟨#[]⟩, .str ⟨#[]⟩, .bool false, .str ⟨#[]⟩, .str ⟨#[]⟩] [(0, v4), (1, v5), (2, v6)]).bind fun v7 => (byVal (callW gp) (@HAppend.hAppend Heap Heap Heap _ r3.2 [some [.bool false, .str ⟨#[]⟩, .str ⟨#[]⟩]]) fid.zf23 [v7]).bind fun v8 => (opBin .neq v8 (.int .i64 0)).bind fun v9 => condK v9 ((opBld [.bool false, .str ⟨#[]⟩, .str ⟨#[]⟩] []).bind fun v10 => (opStore (@HAppend.hAppend Heap Heap Heap _ r3.2 [some [.bool false, .str ⟨#[]⟩, .str ⟨#[]⟩]]) 3 (.rp (List.length (r3.2 : Heap)) 0) v10).bind fun h11 => (opLoad h11 (some 3) (.rp (List.length (r3.2 : Heap)) 0)).bind fun v12 => freeze h11 (.tup [v12, v8])) ((opLoad (@HAppend.hAppend Heap Heap Heap _ r3.2 [some [.bool false, .str ⟨#[]⟩, .str ⟨#[]⟩]]) (some 6) r2.1).bind fun v13 => (opLoad (@HAppend.hAppend Heap Heap Heap _ r3.2 [some [.bool false, .str ⟨#[]⟩, .str ⟨#[]⟩]]) (some 6) r1.1).bind fun v14 => (byVal (callW gp) (@HAppend.hAppend Heap Heap Heap _ r3.2 [some [.bool false, .str ⟨#[]⟩, .str ⟨#[]⟩]]) fid.zf25 [v13, v14]).bind fun v15 => (opLoad (@HAppend.hAppend Heap Heap Heap _ r3.2 [some [.bool false, .str ⟨#[]⟩, .str ⟨#[]⟩]]) (some 6) r3.1).bind fun v16 => (opLoad (@HAppend.hAppend Heap Heap Heap _ r3.2 [some [.bool false, .str ⟨#[]⟩, .str ⟨#[]⟩]]) (some 6) r1.1).bind fun v17 => (byVal (callW gp) (@HAppend.hAppend Heap Heap Heap _ r3.2 [some [.bool false, .str ⟨#[]⟩, .str ⟨#[]⟩]]) fid.zf25 [v16, v17]).bind fun v18 => (byVal (callW gp) (@HAppend.hAppend Heap Heap Heap _ r3.2 [some [.bool false, .str ⟨#[]⟩, .str ⟨#[]⟩]]) fid.zf24 [v15, v18]).bind fun v19 => (opStore (@HAppend.hAppend Heap Heap Heap _ r3.2 [some [.bool false, .str ⟨#[]⟩, .str ⟨#[]⟩]]) 3 (.rp (List.length (r3.2 : Heap)) 0) v19).bind fun h20 => (opLoad h20 (some 3) (.rp (List.length (r3.2 : Heap)) 0)).bind fun v21 => freeze h20 (.tup [v21, (.int .i64 0)]))
theorem zf1b.eq (a0 : AV) (a1 : AV) (a2 : AV) : cv gp fid.zf1b [a0, a1, a2] = zf1b.f a0 a1 a2 :=
  (cv_eq gp fid.zf1b [a0, a1, a2] zf1b.fn_eq).trans (by kernel_rfl)

noncomputable def zf23.fn : AFun := (gp.fn fid.zf23).getD default
theorem zf23.fn_eq : gp.fn fid.zf23 = some zf23.fn := by kernel_rfl
noncomputable def zf23.l0 (y7 : AV) (y8 : AV) (y9 : AV) (hh : Heap) : Option AV := loopAt gp zf23.fn [true, false, true, false] (fun v h => freeze h v) ⟨frame 24 [(7, y7), (8, y8), (9, y9)], hh⟩
noncomputable def zf23.f (a0 : AV) : Option AV :=
  (opLen false a0).bind fun v1 => zf23.l0 a0 v1 (.int .i64 0) []
theorem zf23.l0_eq (y7 : AV) (y8 : AV) (y9 : AV) (hh : Heap) : zf23.l0 y7 y8 y9 hh =
    ((opBin .lss y9 y8).bind fun v2 => condK v2 ((opSidx 6 y7 y9).bind fun v3 => (opLoad hh (some 6) v3).bind fun v4 => (opStore (@HAppend.hAppend Heap Heap Heap _ hh [some [.bool false, .str ⟨#[]⟩, .str ⟨#[]⟩, .bool false, .str ⟨#[]⟩, .str ⟨#[]⟩]]) 6 (.rp (List.length (hh : Heap)) 0) v4).bind fun h5 => (opLoad h5 (some 6) (.rp (List.length (hh : Heap)) 0)).bind fun v6 => (opLoad h5 (some 6) (.rp (List.length (hh : Heap)) 0)).bind fun v7 => (opLoad h5 (some 6) (.rp (List.length (hh : Heap)) 0)).bind fun v8 => (byVal (callW gp) h5 fid.zf14 [v6, v7, v8]).bind fun v9 => (opExt 0 v9).bind fun v10 => (opExt 1 v9).bind fun v11 => (opBin .neq v11 (.int .i64 0)).bind fun v12 => condK v12 (freeze h5 v11) ((opBin .add y9 (.int .i64 1)).bind fun v13 => zf23.l0 y7 y8 v13 h5)) (freeze hh (.int .i64 0))) :=
  (loopAt_eq gp zf23.fn [true, false, true, false] (fun v h => freeze h v) ⟨frame 24 [(7, y7), (8, y8), (9, y9)], hh⟩).trans (by kernel_rfl)
theorem zf23.eq (a0 : AV) : cv gp fid.zf23 [a0] = zf23.f a0 :=
  (cv_eq gp fid.zf23 [a0] zf23.fn_eq).trans (by kernel_rfl)

noncomputable def zf24.fn : AFun := (gp.fn fid.zf24).getD default
theorem zf24.fn_eq : gp.fn fid.zf24 = some zf24.fn := by kernel_rfl
noncomputable def zf24.f (a0 : AV) (a1 : AV) : Option AV :=
  (opBox [] a0).bind fun r1 => (opBox r1.2 a1).bind fun r2 => (opLoad (@HAppend.hAppend Heap Heap Heap _ r2.2 [some [.bool false, .str ⟨#[]⟩, .str ⟨#[]⟩]]) (some 6) r1.1).bind fun v3 => (opLoad (@HAppend.hAppend Heap Heap Heap _ r2.2 [some [.bool false, .str ⟨#[]⟩, .str ⟨#[]⟩]]) (some 6) r2.1).bind fun v4 => (byVal (callW gp) (@HAppend.hAppend Heap Heap Heap _ r2.2 [some [.bool false, .str ⟨#[]⟩, .str ⟨#[]⟩]]) fid.zf34 [v3, v4]).bind fun v5 => (opExt 0 v5).bind fun v6 => (opExt 1 v5).bind fun v7 => (opStore (@HAppend.hAppend Heap Heap Heap _ (@HAppend.hAppend Heap Heap Heap _ r2.2 [some [.bool false, .str ⟨#[]⟩, .str ⟨#[]⟩]]) [some [.bool false, .str ⟨#[]⟩, .str ⟨#[]⟩]]) 3 (.rp (List.length ((@HAppend.hAppend Heap Heap Heap _ r2.2 [some [.bool false, .str ⟨#[]⟩, .str ⟨#[]⟩]]) : Heap)) 0) v6).bind fun h8 => (opLoad h8 (some 3) (.rp (List.length ((@HAppend.hAppend Heap Heap Heap _ r2.2 [some [.bool false, .str ⟨#[]⟩, .str ⟨#[]⟩]]) : Heap)) 0)).bind fun v9 => (opStore h8 3 (.rp (List.length (r2.2 : Heap)) 0) v9).bind fun h10 => (opLoad h10 (some 3) (.rp (List.length (r2.2 : Heap)) 0)).bind fun v11 => freeze h10 v11
theorem zf24.eq (a0 : AV) (a1 : AV) : cv gp fid.zf24 [a0, a1] = zf24.f a0 a1 :=
  (cv_eq gp fid.zf24 [a0, a1] zf24.fn_eq).trans (by kernel_rfl)

noncomputable def zf25.fn : AFun := (gp.fn fid.zf25).getD default
theorem zf25.fn_eq : gp.fn fid.zf25 = some zf25.fn := by kernel_rfl
noncomputable def zf25.f (a0 : AV) (a1 : AV) : Option AV :=
  (opBox [] a0).bind fun r1 => (opBox r1.2 a1).bind fun r2 => (opLoad (@HAppend.hAppend Heap Heap Heap _ r2.2 [some [.bool false, .str ⟨#[]⟩, .str ⟨#[]⟩, .bool false, .str ⟨#[]⟩, .str ⟨#[]⟩]]) (some 6) r1.1).bind fun v3 => (opLoad (@HAppend.hAppend Heap Heap Heap _ r2.2 [some [.bool false, .str ⟨#[]⟩, .str ⟨#[]⟩, .bool false, .str ⟨#[]⟩, .str ⟨#[]⟩]]) (some 6) r2.1).bind fun v4 => (byVal (callW gp) (@HAppend.hAppend Heap Heap Heap _ r2.2 [some [.bool false, .str ⟨#[]⟩, .str ⟨#[]⟩, .bool false, .str ⟨#[]⟩, .str ⟨#[]⟩]]) fid.zf35 [v3, v4]).bind fun v5 => (opExt 0 v5).bind fun v6 => (opExt 1 v5).bind fun v7 => (opStore (@HAppend.hAppend Heap Heap Heap _ (@HAppend.hAppend Heap Heap Heap _ r2.2 [some [.bool false, .str ⟨#[]⟩, .str ⟨#[]⟩, .bool false, .str ⟨#[]⟩, .str ⟨#[]⟩]]) [some [.bool false, .str ⟨#[]⟩, .str ⟨#[]⟩, .bool false, .str ⟨#[]⟩, .str ⟨#[]⟩]]) 6 (.rp (List.length ((@HAppend.hAppend Heap Heap Heap _ r2.2 [some [.bool false, .str ⟨#[]⟩, .str ⟨#[]⟩, .bool false, .str ⟨#[]⟩, .str ⟨#[]⟩]]) : Heap)) 0) v6).bind fun h8 => (opLoad h8 (some 6) (.rp (List.length ((@HAppend.hAppend Heap Heap Heap _ r2.2 [some [.bool false, .str ⟨#[]⟩, .str ⟨#[]⟩, .bool false, .str ⟨#[]⟩, .str ⟨#[]⟩]]) : Heap)) 0)).bind fun v9 => (opStore h8 6 (.rp (List.length (r2.2 : Heap)) 0) v9).bind fun h10 => (opLoad h10 (some 6) (.rp (List.length (r2.2 : Heap)) 0)).bind fun v11 => freeze h10 v11
theorem zf25.eq (a0 : AV) (a1 : AV) : cv gp fid.zf25 [a0, a1] = zf25.f a0 a1 :=
  (cv_eq gp fid.zf25 [a0, a1] zf25.fn_eq).trans (by kernel_rfl)

end Go.Proofs.YtojfiboeghonoaaGreat.Am
