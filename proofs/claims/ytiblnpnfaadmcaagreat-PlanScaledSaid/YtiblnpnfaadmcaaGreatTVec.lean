import Derived.Test.YtiblnpnfaadmcaaGreatAmGp
set_option linter.unusedVariables false
set_option maxRecDepth 10000
set_option maxHeartbeats 0
namespace Go.Proofs.YtiblnpnfaadmcaaGreat.Am
open Go
/-! gusset gussetref04.Check -/
noncomputable def zf10.fn : AFun := (gp.fn fid.zf10).getD default
theorem zf10.fn_eq : gp.fn fid.zf10 = some zf10.fn := by kernel_rfl
noncomputable def zf10.f (a0 : AV) : Option AV :=
  (opBox [] a0).bind fun r1 => (opFaddr 0 r1.1).bind fun v2 => (opLoad r1.2 (some 3) v2).bind fun v3 => (opFaddr 3 r1.1).bind fun v4 => (opLoad r1.2 (some 3) v4).bind fun v5 => (byVal (callW gp) r1.2 fid.zf1j [v3, v5]).bind fun v6 => freeze r1.2 v6
theorem zf10.eq (a0 : AV) : cv gp fid.zf10 [a0] = zf10.f a0 :=
  (cv_eq gp fid.zf10 [a0] zf10.fn_eq).trans (by kernel_rfl)

noncomputable def zf2o.fn : AFun := (gp.fn fid.zf2o).getD default
theorem zf2o.fn_eq : gp.fn fid.zf2o = some zf2o.fn := by kernel_rfl
noncomputable def zf2o.f (a0 : AV) : Option AV :=
  (opBox [] a0).bind fun r1 => (opFaddr 0 r1.1).bind fun v2 => (opLoad r1.2 (some 3) v2).bind fun v3 => (opFaddr 3 r1.1).bind fun v4 => (opLoad r1.2 (some 3) v4).bind fun v5 => (opBslc 3 2 [.bool false, .str ⟨#[]⟩, .str ⟨#[]⟩] [(0, v3), (1, v5)]).bind fun v6 => (byVal (callW gp) r1.2 fid.zf38 [v6]).bind fun v7 => freeze r1.2 v7
theorem zf2o.eq (a0 : AV) : cv gp fid.zf2o [a0] = zf2o.f a0 :=
  (cv_eq gp fid.zf2o [a0] zf2o.fn_eq).trans (by kernel_rfl)

noncomputable def zf38.fn : AFun := (gp.fn fid.zf38).getD default
theorem zf38.fn_eq : gp.fn fid.zf38 = some zf38.fn := by kernel_rfl
noncomputable def zf38.l0 (y6 : AV) (y7 : AV) (y8 : AV) (hh : Heap) : Option AV := loopAt gp zf38.fn [true, false, true, false] (fun v h => freeze h v) ⟨frame 18 [(6, y6), (7, y7), (8, y8)], hh⟩
noncomputable def zf38.f (a0 : AV) : Option AV :=
  (opLen false a0).bind fun v1 => zf38.l0 a0 v1 (.int .i64 0) []
theorem zf38.l0_eq (y6 : AV) (y7 : AV) (y8 : AV) (hh : Heap) : zf38.l0 y6 y7 y8 hh =
    ((opBin .lss y8 y7).bind fun v2 => condK v2 ((opSidx 3 y6 y8).bind fun v3 => (opLoad hh (some 3) v3).bind fun v4 => (opStore (@HAppend.hAppend Heap Heap Heap _ hh [some [.bool false, .str ⟨#[]⟩, .str ⟨#[]⟩]]) 3 (.rp (List.length (hh : Heap)) 0) v4).bind fun h5 => (opLoad h5 (some 3) (.rp (List.length (hh : Heap)) 0)).bind fun v6 => (byVal (callW gp) h5 fid.zf2s [v6]).bind fun v7 => (opBin .neq v7 (.int .i64 0)).bind fun v8 => condK v8 (freeze h5 v7) ((opBin .add y8 (.int .i64 1)).bind fun v9 => zf38.l0 y6 y7 v9 h5)) (freeze hh (.int .i64 0))) :=
  (loopAt_eq gp zf38.fn [true, false, true, false] (fun v h => freeze h v) ⟨frame 18 [(6, y6), (7, y7), (8, y8)], hh⟩).trans (by kernel_rfl)
theorem zf38.eq (a0 : AV) : cv gp fid.zf38 [a0] = zf38.f a0 :=
  (cv_eq gp fid.zf38 [a0] zf38.fn_eq).trans (by kernel_rfl)

noncomputable def zf39.fn : AFun := (gp.fn fid.zf39).getD default
theorem zf39.fn_eq : gp.fn fid.zf39 = some zf39.fn := by kernel_rfl
noncomputable def zf39.f (a0 : AV) (a1 : AV) : Option AV :=
  (opBox [] a0).bind fun r1 => (opBox r1.2 a1).bind fun r2 => (opLoad (@HAppend.hAppend Heap Heap Heap _ r2.2 [some [.bool false, .str ⟨#[]⟩, .str ⟨#[]⟩]]) (some 6) r1.1).bind fun v3 => (opLoad (@HAppend.hAppend Heap Heap Heap _ r2.2 [some [.bool false, .str ⟨#[]⟩, .str ⟨#[]⟩]]) (some 6) r2.1).bind fun v4 => (opBslc 6 2 [.bool false, .str ⟨#[]⟩, .str ⟨#[]⟩, .bool false, .str ⟨#[]⟩, .str ⟨#[]⟩] [(0, v3), (1, v4)]).bind fun v5 => (byVal (callW gp) (@HAppend.hAppend Heap Heap Heap _ r2.2 [some [.bool false, .str ⟨#[]⟩, .str ⟨#[]⟩]]) fid.zf3o [v5]).bind fun v6 => (opBin .neq v6 (.int .i64 0)).bind fun v7 => condK v7 ((opBld [.bool false, .str ⟨#[]⟩, .str ⟨#[]⟩] []).bind fun v8 => (opStore (@HAppend.hAppend Heap Heap Heap _ r2.2 [some [.bool false, .str ⟨#[]⟩, .str ⟨#[]⟩]]) 3 (.rp (List.length (r2.2 : Heap)) 0) v8).bind fun h9 => (opLoad h9 (some 3) (.rp (List.length (r2.2 : Heap)) 0)).bind fun v10 => freeze h9 (.tup [v10, v6])) ((opFaddr 0 r1.1).bind fun v11 => (opLoad (@HAppend.hAppend Heap Heap Heap _ r2.2 [some [.bool false, .str ⟨#[]⟩, .str ⟨#[]⟩]]) (some 3) v11).bind fun v12 => (opFaddr 3 r2.1).bind fun v13 => (opLoad (@HAppend.hAppend Heap Heap Heap _ r2.2 [some [.bool false, .str ⟨#[]⟩, .str ⟨#[]⟩]]) (some 3) v13).bind fun v14 => (opFaddr 3 r1.1).bind fun v15 => (opLoad (@HAppend.hAppend Heap Heap Heap _ r2.2 [some [.bool false, .str ⟨#[]⟩, .str ⟨#[]⟩]]) (some 3) v15).bind fun v16 => (opFaddr 0 r2.1).bind fun v17 => (opLoad (@HAppend.hAppend Heap Heap Heap _ r2.2 [some [.bool false, .str ⟨#[]⟩, .str ⟨#[]⟩]]) (some 3) v17).bind fun v18 => (byVal (callW gp) (@HAppend.hAppend Heap Heap Heap _ r2.2 [some [.bool false, .str ⟨#[]⟩, .str ⟨#[]⟩]]) fid.zf3p [v12, v14, v16, v18, (.fn fid.zf3q [])]).bind fun v19 => (opExt 0 v19).bind fun v20 => (opExt 1 v19).bind fun v21 => (opStore (@HAppend.hAppend Heap Heap Heap _ r2.2 [some [.bool false, .str ⟨#[]⟩, .str ⟨#[]⟩]]) 3 (.rp (List.length (r2.2 : Heap)) 0) v20).bind fun h22 => (opLoad h22 (some 3) (.rp (List.length (r2.2 : Heap)) 0)).bind fun v23 => freeze h22 (.tup [v23, v21]))
theorem zf39.eq (a0 : AV) (a1 : AV) : cv gp fid.zf39 [a0, a1] = zf39.f a0 a1 :=
  (cv_eq gp fid.zf39 [a0, a1] zf39.fn_eq).trans (by kernel_rfl)

noncomputable def zf3a.fn : AFun := (gp.fn fid.zf3a).getD default
theorem zf3a.fn_eq : gp.fn fid.zf3a = some zf3a.fn := by kernel_rfl
noncomputable def zf3a.f (a0 : AV) (a1 : AV) : Option AV :=
  (opBox [] a0).bind fun r1 => (opBox r1.2 a1).bind fun r2 => (opLoad (@HAppend.hAppend Heap Heap Heap _ r2.2 [some [.bool false, .str ⟨#[]⟩, .str ⟨#[]⟩, .bool false, .str ⟨#[]⟩, .str ⟨#[]⟩]]) (some 6) r1.1).bind fun v3 => (opLoad (@HAppend.hAppend Heap Heap Heap _ r2.2 [some [.bool false, .str ⟨#[]⟩, .str ⟨#[]⟩, .bool false, .str ⟨#[]⟩, .str ⟨#[]⟩]]) (some 6) r2.1).bind fun v4 => (byVal (callW gp) (@HAppend.hAppend Heap Heap Heap _ r2.2 [some [.bool false, .str ⟨#[]⟩, .str ⟨#[]⟩, .bool false, .str ⟨#[]⟩, .str ⟨#[]⟩]]) fid.zf3r [v3, v4, (.fn fid.zf3q [])]).bind fun v5 => (opExt 0 v5).bind fun v6 => (opExt 1 v5).bind fun v7 => (opStore (@HAppend.hAppend Heap Heap Heap _ r2.2 [some [.bool false, .str ⟨#[]⟩, .str ⟨#[]⟩, .bool false, .str ⟨#[]⟩, .str ⟨#[]⟩]]) 6 (.rp (List.length (r2.2 : Heap)) 0) v6).bind fun h8 => (opLoad h8 (some 6) (.rp (List.length (r2.2 : Heap)) 0)).bind fun v9 => freeze h8 (.tup [v9, v7])
theorem zf3a.eq (a0 : AV) (a1 : AV) : cv gp fid.zf3a [a0, a1] = zf3a.f a0 a1 :=
  (cv_eq gp fid.zf3a [a0, a1] zf3a.fn_eq).trans (by kernel_rfl)

noncomputable def zf3k.fn : AFun := (gp.fn fid.zf3k).getD default
theorem zf3k.fn_eq : gp.fn fid.zf3k = some zf3k.fn := by kernel_rfl
noncomputable def zf3k.f (a0 : AV) (a1 : AV) : Option AV :=
  (opBox [] a0).bind fun r1 => (opBox r1.2 a1).bind fun r2 => (opFaddr 0 r1.1).bind fun v3 => (opLoad (@HAppend.hAppend Heap Heap Heap _ r2.2 [some [.bool false, .str ⟨#[]⟩, .str ⟨#[]⟩]]) (some 3) v3).bind fun v4 => (opFaddr 0 r2.1).bind fun v5 => (opLoad (@HAppend.hAppend Heap Heap Heap _ r2.2 [some [.bool false, .str ⟨#[]⟩, .str ⟨#[]⟩]]) (some 3) v5).bind fun v6 => (opFaddr 3 r1.1).bind fun v7 => (opLoad (@HAppend.hAppend Heap Heap Heap _ r2.2 [some [.bool false, .str ⟨#[]⟩, .str ⟨#[]⟩]]) (some 3) v7).bind fun v8 => (opFaddr 3 r2.1).bind fun v9 => (opLoad (@HAppend.hAppend Heap Heap Heap _ r2.2 [some [.bool false, .str ⟨#[]⟩, .str ⟨#[]⟩]]) (some 3) v9).bind fun v10 => (byVal (callW gp) (@HAppend.hAppend Heap Heap Heap _ r2.2 [some [.bool false, .str ⟨#[]⟩, .str ⟨#[]⟩]]) fid.zf3p [v4, v6, v8, v10, (.fn fid.zf44 [])]).bind fun v11 => (opExt 0 v11).bind fun v12 => (opExt 1 v11).bind fun v13 => (opStore (@HAppend.hAppend Heap Heap Heap _ r2.2 [some [.bool false, .str ⟨#[]⟩, .str ⟨#[]⟩]]) 3 (.rp (List.length (r2.2 : Heap)) 0) v12).bind fun h14 => (opLoad h14 (some 3) (.rp (List.length (r2.2 : Heap)) 0)).bind fun v15 => freeze h14 (.tup [v15, v13])
theorem zf3k.eq (a0 : AV) (a1 : AV) : cv gp fid.zf3k [a0, a1] = zf3k.f a0 a1 :=
  (cv_eq gp fid.zf3k [a0, a1] zf3k.fn_eq).trans (by kernel_rfl)

noncomputable def zf3o.fn : AFun := (gp.fn fid.zf3o).getD default
theorem zf3o.fn_eq : gp.fn fid.zf3o = some zf3o.fn := by kernel_rfl
noncomputable def zf3o.l0 (y6 : AV) (y7 : AV) (y8 : AV) (hh : Heap) : Option AV := loopAt gp zf3o.fn [true, false, true, false] (fun v h => freeze h v) ⟨frame 18 [(6, y6), (7, y7), (8, y8)], hh⟩
noncomputable def zf3o.f (a0 : AV) : Option AV :=
  (opLen false a0).bind fun v1 => zf3o.l0 a0 v1 (.int .i64 0) []
theorem zf3o.l0_eq (y6 : AV) (y7 : AV) (y8 : AV) (hh : Heap) : zf3o.l0 y6 y7 y8 hh =
    ((opBin .lss y8 y7).bind fun v2 => condK v2 ((opSidx 6 y6 y8).bind fun v3 => (opLoad hh (some 6) v3).bind fun v4 => (opStore (@HAppend.hAppend Heap Heap Heap _ hh [some [.bool false, .str ⟨#[]⟩, .str ⟨#[]⟩, .bool false, .str ⟨#[]⟩, .str ⟨#[]⟩]]) 6 (.rp (List.length (hh : Heap)) 0) v4).bind fun h5 => (opLoad h5 (some 6) (.rp (List.length (hh : Heap)) 0)).bind fun v6 => (byVal (callW gp) h5 fid.zf2o [v6]).bind fun v7 => (opBin .neq v7 (.int .i64 0)).bind fun v8 => condK v8 (freeze h5 v7) ((opBin .add y8 (.int .i64 1)).bind fun v9 => zf3o.l0 y6 y7 v9 h5)) (freeze hh (.int .i64 0))) :=
  (loopAt_eq gp zf3o.fn [true, false, true, false] (fun v h => freeze h v) ⟨frame 18 [(6, y6), (7, y7), (8, y8)], hh⟩).trans (by kernel_rfl)
theorem zf3o.eq (a0 : AV) : cv gp fid.zf3o [a0] = zf3o.f a0 :=
  (cv_eq gp fid.zf3o [a0] zf3o.fn_eq).trans (by kernel_rfl)

noncomputable def zf3p.fn : AFun := (gp.fn fid.zf3p).getD default
theorem zf3p.fn_eq : gp.fn fid.zf3p = some zf3p.fn := by kernel_rfl
noncomputable def zf3p.f (a0 : AV) (a1 : AV) (a2 : AV) (a3 : AV) (a4 : AV) : Option AV :=
  (opBox [] a0).bind fun r1 => (opBox r1.2 a1).bind fun r2 => (opBox r2.2 a2).bind fun r3 => (opBox r3.2 a3).bind fun r4 => (opLoad (@HAppend.hAppend Heap Heap Heap _ r4.2 [some [.bool false, .str ⟨#[]⟩, .str ⟨#[]⟩]]) (some 3) r1.1).bind fun v5 => (opLoad (@HAppend.hAppend Heap Heap Heap _ r4.2 [some [.bool false, .str ⟨#[]⟩, .str ⟨#[]⟩]]) (some 3) r3.1).bind fun v6 => (opLoad (@HAppend.hAppend Heap Heap Heap _ r4.2 [some [.bool false, .str ⟨#[]⟩, .str ⟨#[]⟩]]) (some 3) r2.1).bind fun v7 => (opLoad (@HAppend.hAppend Heap Heap Heap _ r4.2 [some [.bool false, .str ⟨#[]⟩, .str ⟨#[]⟩]]) (some 3) r4.1).bind fun v8 => (opBslc 3 4 [.bool false, .str ⟨#[]⟩, .str ⟨#[]⟩] [(0, v5), (1, v6), (2, v7), (3, v8)]).bind fun v9 => (byVal (callW gp) (@HAppend.hAppend Heap Heap Heap _ r4.2 [some [.bool false, .str ⟨#[]⟩, .str ⟨#[]⟩]]) fid.zf38 [v9]).bind fun v10 => (opBin .neq v10 (.int .i64 0)).bind fun v11 => condK v11 ((opBld [.bool false, .str ⟨#[]⟩, .str ⟨#[]⟩] []).bind fun v12 => (opStore (@HAppend.hAppend Heap Heap Heap _ r4.2 [some [.bool false, .str ⟨#[]⟩, .str ⟨#[]⟩]]) 3 (.rp (List.length (r4.2 : Heap)) 0) v12).bind fun h13 => (opLoad h13 (some 3) (.rp (List.length (r4.2 : Heap)) 0)).bind fun v14 => freeze h13 (.tup [v14, v10])) ((opLoad (@HAppend.hAppend Heap Heap Heap _ r4.2 [some [.bool false, .str ⟨#[]⟩, .str ⟨#[]⟩]]) (some 3) r1.1).bind fun v15 => (opLoad (@HAppend.hAppend Heap Heap Heap _ r4.2 [some [.bool false, .str ⟨#[]⟩, .str ⟨#[]⟩]]) (some 3) r2.1).bind fun v16 => (byVal (callW gp) (@HAppend.hAppend Heap Heap Heap _ r4.2 [some [.bool false, .str ⟨#[]⟩, .str ⟨#[]⟩]]) fid.zf46 [(.fn fid.zf3m []), v15, v16]).bind fun v17 => (opLoad (@HAppend.hAppend Heap Heap Heap _ r4.2 [some [.bool false, .str ⟨#[]⟩, .str ⟨#[]⟩]]) (some 3) r3.1).bind fun v18 => (opLoad (@HAppend.hAppend Heap Heap Heap _ r4.2 [some [.bool false, .str ⟨#[]⟩, .str ⟨#[]⟩]]) (some 3) r4.1).bind fun v19 => (byVal (callW gp) (@HAppend.hAppend Heap Heap Heap _ r4.2 [some [.bool false, .str ⟨#[]⟩, .str ⟨#[]⟩]]) fid.zf46 [(.fn fid.zf3m []), v18, v19]).bind fun v20 => (byVal (callW gp) (@HAppend.hAppend Heap Heap Heap _ r4.2 [some [.bool false, .str ⟨#[]⟩, .str ⟨#[]⟩]]) fid.zf46 [a4, v17, v20]).bind fun v21 => (opStore (@HAppend.hAppend Heap Heap Heap _ r4.2 [some [.bool false, .str ⟨#[]⟩, .str ⟨#[]⟩]]) 3 (.rp (List.length (r4.2 : Heap)) 0) v21).bind fun h22 => (opLoad h22 (some 3) (.rp (List.length (r4.2 : Heap)) 0)).bind fun v23 => freeze h22 (.tup [v23, (.int .i64 0)]))
theorem zf3p.eq (a0 : AV) (a1 : AV) (a2 : AV) (a3 : AV) (a4 : AV) : cv gp fid.zf3p [a0, a1, a2, a3, a4] = zf3p.f a0 a1 a2 a3 a4 :=
  (cv_eq gp fid.zf3p [a0, a1, a2, a3, a4] zf3p.fn_eq).trans (by kernel_rfl)

noncomputable def zf3r.fn : AFun := (gp.fn fid.zf3r).getD default
theorem zf3r.fn_eq : gp.fn fid.zf3r = some zf3r.fn := by kernel_rfl
noncomputable def zf3r.f (a0 : AV) (a1 : AV) (a2 : AV) : Option AV :=
  (opBox [] a0).bind fun r1 => (opBox r1.2 a1).bind fun r2 => (opLoad (@HAppend.hAppend Heap Heap Heap _ r2.2 [some [.bool false, .str ⟨#[]⟩, .str ⟨#[]⟩, .bool false, .str ⟨#[]⟩, .str ⟨#[]⟩]]) (some 6) r1.1).bind fun v3 => (opLoad (@HAppend.hAppend Heap Heap Heap _ r2.2 [some [.bool false, .str ⟨#[]⟩, .str ⟨#[]⟩, .bool false, .str ⟨#[]⟩, .str ⟨#[]⟩]]) (some 6) r2.1).bind fun v4 => (opBslc 6 2 [.bool false, .str ⟨#[]⟩, .str ⟨#[]⟩, .bool false, .str ⟨#[]⟩, .str ⟨#[]⟩] [(0, v3), (1, v4)]).bind fun v5 => (byVal (callW gp) (@HAppend.hAppend Heap Heap Heap _ r2.2 [some [.bool false, .str ⟨#[]⟩, .str ⟨#[]⟩, .bool false, .str ⟨#[]⟩, .str ⟨#[]⟩]]) fid.zf3o [v5]).bind fun v6 => (opBin .neq v6 (.int .i64 0)).bind fun v7 => condK v7 ((opBld [.bool false, .str ⟨#[]⟩, .str ⟨#[]⟩, .bool false, .str ⟨#[]⟩, .str ⟨#[]⟩] []).bind fun v8 => (opStore (@HAppend.hAppend Heap Heap Heap _ r2.2 [some [.bool false, .str ⟨#[]⟩, .str ⟨#[]⟩, .bool false, .str ⟨#[]⟩, .str ⟨#[]⟩]]) 6 (.rp (List.length (r2.2 : Heap)) 0) v8).bind fun h9 => (opLoad h9 (some 6) (.rp (List.length (r2.2 : Heap)) 0)).bind fun v10 => freeze h9 (.tup [v10, v6])) ((opFaddr 0 r1.1).bind fun v11 => (opLoad (@HAppend.hAppend Heap Heap Heap _ r2.2 [some [.bool false, .str ⟨#[]⟩, .str ⟨#[]⟩, .bool false, .str ⟨#[]⟩, .str ⟨#[]⟩]]) (some 3) v11).bind fun v12 => (opFaddr 0 r2.1).bind fun v13 => (opLoad (@HAppend.hAppend Heap Heap Heap _ r2.2 [some [.bool false, .str ⟨#[]⟩, .str ⟨#[]⟩, .bool false, .str ⟨#[]⟩, .str ⟨#[]⟩]]) (some 3) v13).bind fun v14 => (byVal (callW gp) (@HAppend.hAppend Heap Heap Heap _ r2.2 [some [.bool false, .str ⟨#[]⟩, .str ⟨#[]⟩, .bool false, .str ⟨#[]⟩, .str ⟨#[]⟩]]) fid.zf46 [a2, v12, v14]).bind fun v15 => (opFaddr 3 r1.1).bind fun v16 => (opLoad (@HAppend.hAppend Heap Heap Heap _ r2.2 [some [.bool false, .str ⟨#[]⟩, .str ⟨#[]⟩, .bool false, .str ⟨#[]⟩, .str ⟨#[]⟩]]) (some 3) v16).bind fun v17 => (opFaddr 3 r2.1).bind fun v18 => (opLoad (@HAppend.hAppend Heap Heap Heap _ r2.2 [some [.bool false, .str ⟨#[]⟩, .str ⟨#[]⟩, .bool false, .str ⟨#[]⟩, .str ⟨#[]⟩]]) (some 3) v18).bind fun v19 => (byVal (callW gp) (@HAppend.hAppend Heap Heap Heap _ r2.2 [some [.bool false, .str ⟨#[]⟩, .str ⟨#[]⟩, .bool false, .str ⟨#[]⟩, .str ⟨#[]⟩]]) fid.zf46 [a2, v17, v19]).bind fun v20 => (opBld [.bool false, .str ⟨#[]⟩, .str ⟨#[]⟩, .bool false, .str ⟨#[]⟩, .str ⟨#[]⟩] [(0, 3, v15), (3, 3, v20)]).bind fun v21 => (opStore (@HAppend.hAppend Heap Heap Heap _ r2.2 [some [.bool false, .str ⟨#[]⟩, .str ⟨#[]⟩, .bool false, .str ⟨#[]⟩, .str ⟨#[]⟩]]) 6 (.rp (List.length (r2.2 : Heap)) 0) v21).bind fun h22 => (opLoad h22 (some 6) (.rp (List.length (r2.2 : Heap)) 0)).bind fun v23 => freeze h22 (.tup [v23, (.int .i64 0)]))
theorem zf3r.eq (a0 : AV) (a1 : AV) (a2 : AV) : cv gp fid.zf3r [a0, a1, a2] = zf3r.f a0 a1 a2 :=
  (cv_eq gp fid.zf3r [a0, a1, a2] zf3r.fn_eq).trans (by kernel_rfl)

noncomputable def zf46.fn : AFun := (gp.fn fid.zf46).getD default
theorem zf46.fn_eq : gp.fn fid.zf46 = some zf46.fn := by kernel_rfl
noncomputable def zf46.f (a0 : AV) (a1 : AV) (a2 : AV) : Option AV :=
  (opBox [] a1).bind fun r1 => (opBox r1.2 a2).bind fun r2 => (opLoad (@HAppend.hAppend Heap Heap Heap _ r2.2 [some [.bool false, .str ⟨#[]⟩, .str ⟨#[]⟩]]) (some 3) r1.1).bind fun v3 => (opLoad (@HAppend.hAppend Heap Heap Heap _ r2.2 [some [.bool false, .str ⟨#[]⟩, .str ⟨#[]⟩]]) (some 3) r2.1).bind fun v4 => callK' (callW gp) gp.refm (@HAppend.hAppend Heap Heap Heap _ r2.2 [some [.bool false, .str ⟨#[]⟩, .str ⟨#[]⟩]]) a0 [v3, v4] fun v5 h6 => (opExt 0 v5).bind fun v7 => (opExt 1 v5).bind fun v8 => (opStore (@HAppend.hAppend Heap Heap Heap _ h6 [some [.bool false, .str ⟨#[]⟩, .str ⟨#[]⟩]]) 3 (.rp (List.length (h6 : Heap)) 0) v7).bind fun h9 => (opLoad h9 (some 3) (.rp (List.length (h6 : Heap)) 0)).bind fun v10 => (opStore h9 3 (.rp (List.length (r2.2 : Heap)) 0) v10).bind fun h11 => (opLoad h11 (some 3) (.rp (List.length (r2.2 : Heap)) 0)).bind fun v12 => freeze h11 v12
theorem zf46.eq (a0 : AV) (a1 : AV) (a2 : AV) : cv gp fid.zf46 [a0, a1, a2] = zf46.f a0 a1 a2 :=
  (cv_eq gp fid.zf46 [a0, a1, a2] zf46.fn_eq).trans (by kernel_rfl)

end Go.Proofs.YtiblnpnfaadmcaaGreat.Am
