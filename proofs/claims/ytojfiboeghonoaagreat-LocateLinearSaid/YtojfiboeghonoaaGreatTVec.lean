import Derived.Test.YtojfiboeghonoaaGreatAmGp
set_option linter.unusedVariables false
set_option maxRecDepth 10000
set_option maxHeartbeats 0
namespace Go.Proofs.YtojfiboeghonoaaGreat.Am
open Go
/-! gusset gussetref04.Check -/
noncomputable def zf11.fn : AFun := (gp.fn fid.zf11).getD default
theorem zf11.fn_eq : gp.fn fid.zf11 = some zf11.fn := by kernel_rfl
noncomputable def zf11.f (a0 : AV) : Option AV :=
  (opBox [] a0).bind fun r1 => (opFaddr 0 r1.1).bind fun v2 => (opLoad r1.2 (some 3) v2).bind fun v3 => (opFaddr 3 r1.1).bind fun v4 => (opLoad r1.2 (some 3) v4).bind fun v5 => (byVal (callW gp) r1.2 fid.zf1r [v3, v5]).bind fun v6 => freeze r1.2 v6
theorem zf11.eq (a0 : AV) : cv gp fid.zf11 [a0] = zf11.f a0 :=
  (cv_eq gp fid.zf11 [a0] zf11.fn_eq).trans (by kernel_rfl)

noncomputable def zf18.fn : AFun := (gp.fn fid.zf18).getD default
theorem zf18.fn_eq : gp.fn fid.zf18 = some zf18.fn := by kernel_rfl
noncomputable def zf18.f (a0 : AV) (a1 : AV) : Option AV :=
  (byVal (callW gp) [] fid.zf1y [a0, a1]).bind fun v1 => (opBin .geq v1 (.int .i64 0)).bind fun v2 => freeze [] v2
theorem zf18.eq (a0 : AV) (a1 : AV) : cv gp fid.zf18 [a0, a1] = zf18.f a0 a1 :=
  (cv_eq gp fid.zf18 [a0, a1] zf18.fn_eq).trans (by kernel_rfl)

noncomputable def zf1w.fn : AFun := (gp.fn fid.zf1w).getD default
theorem zf1w.fn_eq : gp.fn fid.zf1w = some zf1w.fn := by kernel_rfl
noncomputable def zf1w.f (a0 : AV) (a1 : AV) : Option AV :=
  (opBox [] a0).bind fun r1 => (opBox r1.2 a1).bind fun r2 => (opFaddr 0 r1.1).bind fun v3 => (opLoad (@HAppend.hAppend Heap Heap Heap _ r2.2 [some [.bool false, .str ⟨#[]⟩, .str ⟨#[]⟩]]) (some 3) v3).bind fun v4 => (opFaddr 3 r2.1).bind fun v5 => (opLoad (@HAppend.hAppend Heap Heap Heap _ r2.2 [some [.bool false, .str ⟨#[]⟩, .str ⟨#[]⟩]]) (some 3) v5).bind fun v6 => (byVal (callW gp) (@HAppend.hAppend Heap Heap Heap _ r2.2 [some [.bool false, .str ⟨#[]⟩, .str ⟨#[]⟩]]) fid.zf0u [v4, v6]).bind fun v7 => (opFaddr 3 r1.1).bind fun v8 => (opLoad (@HAppend.hAppend Heap Heap Heap _ r2.2 [some [.bool false, .str ⟨#[]⟩, .str ⟨#[]⟩]]) (some 3) v8).bind fun v9 => (opFaddr 0 r2.1).bind fun v10 => (opLoad (@HAppend.hAppend Heap Heap Heap _ r2.2 [some [.bool false, .str ⟨#[]⟩, .str ⟨#[]⟩]]) (some 3) v10).bind fun v11 => (byVal (callW gp) (@HAppend.hAppend Heap Heap Heap _ r2.2 [some [.bool false, .str ⟨#[]⟩, .str ⟨#[]⟩]]) fid.zf0u [v9, v11]).bind fun v12 => (byVal (callW gp) (@HAppend.hAppend Heap Heap Heap _ r2.2 [some [.bool false, .str ⟨#[]⟩, .str ⟨#[]⟩]]) fid.zf2z [v7, v12]).bind fun v13 => (opStore (@HAppend.hAppend Heap Heap Heap _ r2.2 [some [.bool false, .str ⟨#[]⟩, .str ⟨#[]⟩]]) 3 (.rp (List.length (r2.2 : Heap)) 0) v13).bind fun h14 => (opLoad h14 (some 3) (.rp (List.length (r2.2 : Heap)) 0)).bind fun v15 => freeze h14 v15
theorem zf1w.eq (a0 : AV) (a1 : AV) : cv gp fid.zf1w [a0, a1] = zf1w.f a0 a1 :=
  (cv_eq gp fid.zf1w [a0, a1] zf1w.fn_eq).trans (by kernel_rfl)

noncomputable def zf1x.fn : AFun := (gp.fn fid.zf1x).getD default
theorem zf1x.fn_eq : gp.fn fid.zf1x = some zf1x.fn := by kernel_rfl
noncomputable def zf1x.f (a0 : AV) (a1 : AV) : Option AV :=
  (opBox [] a0).bind fun r1 => (opBox r1.2 a1).bind fun r2 => (opFaddr 0 r1.1).bind fun v3 => (opLoad (@HAppend.hAppend Heap Heap Heap _ r2.2 [some [.bool false, .str ⟨#[]⟩, .str ⟨#[]⟩, .bool false, .str ⟨#[]⟩, .str ⟨#[]⟩]]) (some 3) v3).bind fun v4 => (opFaddr 0 r2.1).bind fun v5 => (opLoad (@HAppend.hAppend Heap Heap Heap _ r2.2 [some [.bool false, .str ⟨#[]⟩, .str ⟨#[]⟩, .bool false, .str ⟨#[]⟩, .str ⟨#[]⟩]]) (some 3) v5).bind fun v6 => (byVal (callW gp) (@HAppend.hAppend Heap Heap Heap _ r2.2 [some [.bool false, .str ⟨#[]⟩, .str ⟨#[]⟩, .bool false, .str ⟨#[]⟩, .str ⟨#[]⟩]]) fid.zf2z [v4, v6]).bind fun v7 => (opFaddr 3 r1.1).bind fun v8 => (opLoad (@HAppend.hAppend Heap Heap Heap _ r2.2 [some [.bool false, .str ⟨#[]⟩, .str ⟨#[]⟩, .bool false, .str ⟨#[]⟩, .str ⟨#[]⟩]]) (some 3) v8).bind fun v9 => (opFaddr 3 r2.1).bind fun v10 => (opLoad (@HAppend.hAppend Heap Heap Heap _ r2.2 [some [.bool false, .str ⟨#[]⟩, .str ⟨#[]⟩, .bool false, .str ⟨#[]⟩, .str ⟨#[]⟩]]) (some 3) v10).bind fun v11 => (byVal (callW gp) (@HAppend.hAppend Heap Heap Heap _ r2.2 [some [.bool false, .str ⟨#[]⟩, .str ⟨#[]⟩, .bool false, .str ⟨#[]⟩, .str ⟨#[]⟩]]) fid.zf2z [v9, v11]).bind fun v12 => (opBld [.bool false, .str ⟨#[]⟩, .str ⟨#[]⟩, .bool false, .str ⟨#[]⟩, .str ⟨#[]⟩] [(0, 3, v7), (3, 3, v12)]).bind fun v13 => (opStore (@HAppend.hAppend Heap Heap Heap _ r2.2 [some [.bool false, .str ⟨#[]⟩, .str ⟨#[]⟩, .bool false, .str ⟨#[]⟩, .str ⟨#[]⟩]]) 6 (.rp (List.length (r2.2 : Heap)) 0) v13).bind fun h14 => (opLoad h14 (some 6) (.rp (List.length (r2.2 : Heap)) 0)).bind fun v15 => freeze h14 v15
theorem zf1x.eq (a0 : AV) (a1 : AV) : cv gp fid.zf1x [a0, a1] = zf1x.f a0 a1 :=
  (cv_eq gp fid.zf1x [a0, a1] zf1x.fn_eq).trans (by kernel_rfl)

noncomputable def zf1y.fn : AFun := (gp.fn fid.zf1y).getD default
theorem zf1y.fn_eq : gp.fn fid.zf1y = some zf1y.fn := by kernel_rfl
noncomputable def zf1y.l0 (y0 : AV) (y1 : AV) (y7 : AV) (y8 : AV) : Option AV := loopAt gp zf1y.fn [true, false, true, false] (fun v h => freeze h v) ⟨frame 19 [(0, y0), (1, y1), (7, y7), (8, y8)], []⟩
noncomputable def zf1y.f (a0 : AV) (a1 : AV) : Option AV :=
  (opLen false a0).bind fun v1 => zf1y.l0 a0 a1 v1 (.int .i64 0)
theorem zf1y.l0_eq (y0 : AV) (y1 : AV) (y7 : AV) (y8 : AV) : zf1y.l0 y0 y1 y7 y8 =
    ((opBin .lss y8 y7).bind fun v2 => condK v2 ((opSidx 1 y0 y8).bind fun v3 => (opLoad [] none v3).bind fun v4 => (opBin .eql y1 v4).bind fun v5 => condK v5 (freeze [] y8) ((opBin .add y8 (.int .i64 1)).bind fun v6 => zf1y.l0 y0 y1 y7 v6)) (freeze [] (.int .i64 (-1)))) :=
  (loopAt_eq gp zf1y.fn [true, false, true, false] (fun v h => freeze h v) ⟨frame 19 [(0, y0), (1, y1), (7, y7), (8, y8)], []⟩).trans (by kernel_rfl)
theorem zf1y.eq (a0 : AV) (a1 : AV) : cv gp fid.zf1y [a0, a1] = zf1y.f a0 a1 :=
  (cv_eq gp fid.zf1y [a0, a1] zf1y.fn_eq).trans (by kernel_rfl)

noncomputable def zf2v.fn : AFun := (gp.fn fid.zf2v).getD default
theorem zf2v.fn_eq : gp.fn fid.zf2v = some zf2v.fn := by kernel_rfl
noncomputable def zf2v.f (a0 : AV) : Option AV :=
  (opBox [] a0).bind fun r1 => (opFaddr 0 r1.1).bind fun v2 => (opLoad r1.2 (some 3) v2).bind fun v3 => (opFaddr 3 r1.1).bind fun v4 => (opLoad r1.2 (some 3) v4).bind fun v5 => (opBslc 3 2 [.bool false, .str ⟨#[]⟩, .str ⟨#[]⟩] [(0, v3), (1, v5)]).bind fun v6 => (byVal (callW gp) r1.2 fid.zf3e [v6]).bind fun v7 => freeze r1.2 v7
theorem zf2v.eq (a0 : AV) : cv gp fid.zf2v [a0] = zf2v.f a0 :=
  (cv_eq gp fid.zf2v [a0] zf2v.fn_eq).trans (by kernel_rfl)

noncomputable def zf34.fn : AFun := (gp.fn fid.zf34).getD default
theorem zf34.fn_eq : gp.fn fid.zf34 = some zf34.fn := by kernel_rfl
noncomputable def zf34.f (a0 : AV) (a1 : AV) : Option AV :=
  (opBox [] a0).bind fun r1 => (opBox r1.2 a1).bind fun r2 => (opLoad (@HAppend.hAppend Heap Heap Heap _ r2.2 [some [.bool false, .str ⟨#[]⟩, .str ⟨#[]⟩]]) (some 6) r1.1).bind fun v3 => (opLoad (@HAppend.hAppend Heap Heap Heap _ r2.2 [some [.bool false, .str ⟨#[]⟩, .str ⟨#[]⟩]]) (some 6) r2.1).bind fun v4 => (opBslc 6 2 [.bool false, .str ⟨#[]⟩, .str ⟨#[]⟩, .bool false, .str ⟨#[]⟩, .str ⟨#[]⟩] [(0, v3), (1, v4)]).bind fun v5 => (byVal (callW gp) (@HAppend.hAppend Heap Heap Heap _ r2.2 [some [.bool false, .str ⟨#[]⟩, .str ⟨#[]⟩]]) fid.zf3t [v5]).bind fun v6 => (opBin .neq v6 (.int .i64 0)).bind fun v7 => condK v7 ((opBld [.bool false, .str ⟨#[]⟩, .str ⟨#[]⟩] []).bind fun v8 => (opStore (@HAppend.hAppend Heap Heap Heap _ r2.2 [some [.bool false, .str ⟨#[]⟩, .str ⟨#[]⟩]]) 3 (.rp (List.length (r2.2 : Heap)) 0) v8).bind fun h9 => (opLoad h9 (some 3) (.rp (List.length (r2.2 : Heap)) 0)).bind fun v10 => freeze h9 (.tup [v10, v6])) ((opFaddr 0 r1.1).bind fun v11 => (opLoad (@HAppend.hAppend Heap Heap Heap _ r2.2 [some [.bool false, .str ⟨#[]⟩, .str ⟨#[]⟩]]) (some 3) v11).bind fun v12 => (opFaddr 3 r2.1).bind fun v13 => (opLoad (@HAppend.hAppend Heap Heap Heap _ r2.2 [some [.bool false, .str ⟨#[]⟩, .str ⟨#[]⟩]]) (some 3) v13).bind fun v14 => (opFaddr 3 r1.1).bind fun v15 => (opLoad (@HAppend.hAppend Heap Heap Heap _ r2.2 [some [.bool false, .str ⟨#[]⟩, .str ⟨#[]⟩]]) (some 3) v15).bind fun v16 => (opFaddr 0 r2.1).bind fun v17 => (opLoad (@HAppend.hAppend Heap Heap Heap _ r2.2 [some [.bool false, .str ⟨#[]⟩, .str ⟨#[]⟩]]) (some 3) v17).bind fun v18 => (byVal (callW gp) (@HAppend.hAppend Heap Heap Heap _ r2.2 [some [.bool false, .str ⟨#[]⟩, .str ⟨#[]⟩]]) fid.zf3u [v12, v14, v16, v18, (.fn fid.zf3v [])]).bind fun v19 => (opExt 0 v19).bind fun v20 => (opExt 1 v19).bind fun v21 => (opStore (@HAppend.hAppend Heap Heap Heap _ r2.2 [some [.bool false, .str ⟨#[]⟩, .str ⟨#[]⟩]]) 3 (.rp (List.length (r2.2 : Heap)) 0) v20).bind fun h22 => (opLoad h22 (some 3) (.rp (List.length (r2.2 : Heap)) 0)).bind fun v23 => freeze h22 (.tup [v23, v21]))
theorem zf34.eq (a0 : AV) (a1 : AV) : cv gp fid.zf34 [a0, a1] = zf34.f a0 a1 :=
  (cv_eq gp fid.zf34 [a0, a1] zf34.fn_eq).trans (by kernel_rfl)

noncomputable def zf35.fn : AFun := (gp.fn fid.zf35).getD default
theorem zf35.fn_eq : gp.fn fid.zf35 = some zf35.fn := by kernel_rfl
noncomputable def zf35.f (a0 : AV) (a1 : AV) : Option AV :=
  (opBox [] a0).bind fun r1 => (opBox r1.2 a1).bind fun r2 => (opLoad (@HAppend.hAppend Heap Heap Heap _ r2.2 [some [.bool false, .str ⟨#[]⟩, .str ⟨#[]⟩, .bool false, .str ⟨#[]⟩, .str ⟨#[]⟩]]) (some 6) r1.1).bind fun v3 => (opLoad (@HAppend.hAppend Heap Heap Heap _ r2.2 [some [.bool false, .str ⟨#[]⟩, .str ⟨#[]⟩, .bool false, .str ⟨#[]⟩, .str ⟨#[]⟩]]) (some 6) r2.1).bind fun v4 => (byVal (callW gp) (@HAppend.hAppend Heap Heap Heap _ r2.2 [some [.bool false, .str ⟨#[]⟩, .str ⟨#[]⟩, .bool false, .str ⟨#[]⟩, .str ⟨#[]⟩]]) fid.zf3w [v3, v4, (.fn fid.zf3v [])]).bind fun v5 => (opExt 0 v5).bind fun v6 => (opExt 1 v5).bind fun v7 => (opStore (@HAppend.hAppend Heap Heap Heap _ r2.2 [some [.bool false, .str ⟨#[]⟩, .str ⟨#[]⟩, .bool false, .str ⟨#[]⟩, .str ⟨#[]⟩]]) 6 (.rp (List.length (r2.2 : Heap)) 0) v6).bind fun h8 => (opLoad h8 (some 6) (.rp (List.length (r2.2 : Heap)) 0)).bind fun v9 => freeze h8 (.tup [v9, v7])
theorem zf35.eq (a0 : AV) (a1 : AV) : cv gp fid.zf35 [a0, a1] = zf35.f a0 a1 :=
  (cv_eq gp fid.zf35 [a0, a1] zf35.fn_eq).trans (by kernel_rfl)

noncomputable def zf3c.fn : AFun := (gp.fn fid.zf3c).getD default
theorem zf3c.fn_eq : gp.fn fid.zf3c = some zf3c.fn := by kernel_rfl
noncomputable def zf3c.l0 (y0 : AV) (y3 : AV) (y4 : AV) : Option AV := loopAt gp zf3c.fn [true, true, true, false, true, false] (fun v h => freeze h v) ⟨frame 25 [(0, y0), (3, y3), (4, y4)], []⟩
noncomputable def zf3c.f (a0 : AV) : Option AV :=
  (opLen false a0).bind fun v1 => (opBin .lss v1 (.int .i64 1)).bind fun v2 => condK v2 (none) ((opSidx 1 a0 (.int .i64 0)).bind fun v3 => (opLoad [] none v3).bind fun v4 => zf3c.l0 a0 v4 (.int .i64 1))
theorem zf3c.l0_eq (y0 : AV) (y3 : AV) (y4 : AV) : zf3c.l0 y0 y3 y4 =
    ((opLen false y0).bind fun v5 => (opBin .lss y4 v5).bind fun v6 => condK v6 ((opSidx 1 y0 y4).bind fun v7 => (opLoad [] none v7).bind fun v8 => (opMm false [y3, v8]).bind fun v9 => (opBin .add y4 (.int .i64 1)).bind fun v10 => zf3c.l0 y0 v9 v10) (freeze [] y3)) :=
  (loopAt_eq gp zf3c.fn [true, true, true, false, true, false] (fun v h => freeze h v) ⟨frame 25 [(0, y0), (3, y3), (4, y4)], []⟩).trans (by kernel_rfl)
theorem zf3c.eq (a0 : AV) : cv gp fid.zf3c [a0] = zf3c.f a0 :=
  (cv_eq gp fid.zf3c [a0] zf3c.fn_eq).trans (by kernel_rfl)

noncomputable def zf3d.fn : AFun := (gp.fn fid.zf3d).getD default
theorem zf3d.fn_eq : gp.fn fid.zf3d = some zf3d.fn := by kernel_rfl
noncomputable def zf3d.l0 (y0 : AV) (y3 : AV) (y4 : AV) : Option AV := loopAt gp zf3d.fn [true, true, true, false, true, false] (fun v h => freeze h v) ⟨frame 25 [(0, y0), (3, y3), (4, y4)], []⟩
noncomputable def zf3d.f (a0 : AV) : Option AV :=
  (opLen false a0).bind fun v1 => (opBin .lss v1 (.int .i64 1)).bind fun v2 => condK v2 (none) ((opSidx 1 a0 (.int .i64 0)).bind fun v3 => (opLoad [] none v3).bind fun v4 => zf3d.l0 a0 v4 (.int .i64 1))
theorem zf3d.l0_eq (y0 : AV) (y3 : AV) (y4 : AV) : zf3d.l0 y0 y3 y4 =
    ((opLen false y0).bind fun v5 => (opBin .lss y4 v5).bind fun v6 => condK v6 ((opSidx 1 y0 y4).bind fun v7 => (opLoad [] none v7).bind fun v8 => (opMm true [y3, v8]).bind fun v9 => (opBin .add y4 (.int .i64 1)).bind fun v10 => zf3d.l0 y0 v9 v10) (freeze [] y3)) :=
  (loopAt_eq gp zf3d.fn [true, true, true, false, true, false] (fun v h => freeze h v) ⟨frame 25 [(0, y0), (3, y3), (4, y4)], []⟩).trans (by kernel_rfl)
theorem zf3d.eq (a0 : AV) : cv gp fid.zf3d [a0] = zf3d.f a0 :=
  (cv_eq gp fid.zf3d [a0] zf3d.fn_eq).trans (by kernel_rfl)

noncomputable def zf3e.fn : AFun := (gp.fn fid.zf3e).getD default
theorem zf3e.fn_eq : gp.fn fid.zf3e = some zf3e.fn := by kernel_rfl
noncomputable def zf3e.l0 (y6 : AV) (y7 : AV) (y8 : AV) (hh : Heap) : Option AV := loopAt gp zf3e.fn [true, false, true, false] (fun v h => freeze h v) ⟨frame 18 [(6, y6), (7, y7), (8, y8)], hh⟩
noncomputable def zf3e.f (a0 : AV) : Option AV :=
  (opLen false a0).bind fun v1 => zf3e.l0 a0 v1 (.int .i64 0) []
theorem zf3e.l0_eq (y6 : AV) (y7 : AV) (y8 : AV) (hh : Heap) : zf3e.l0 y6 y7 y8 hh =
    ((opBin .lss y8 y7).bind fun v2 => condK v2 ((opSidx 3 y6 y8).bind fun v3 => (opLoad hh (some 3) v3).bind fun v4 => (opStore (@HAppend.hAppend Heap Heap Heap _ hh [some [.bool false, .str ⟨#[]⟩, .str ⟨#[]⟩]]) 3 (.rp (List.length (hh : Heap)) 0) v4).bind fun h5 => (opLoad h5 (some 3) (.rp (List.length (hh : Heap)) 0)).bind fun v6 => (byVal (callW gp) h5 fid.zf19 [v6]).bind fun v7 => (opBin .neq v7 (.int .i64 0)).bind fun v8 => condK v8 (freeze h5 v7) ((opBin .add y8 (.int .i64 1)).bind fun v9 => zf3e.l0 y6 y7 v9 h5)) (freeze hh (.int .i64 0))) :=
  (loopAt_eq gp zf3e.fn [true, false, true, false] (fun v h => freeze h v) ⟨frame 18 [(6, y6), (7, y7), (8, y8)], hh⟩).trans (by kernel_rfl)
theorem zf3e.eq (a0 : AV) : cv gp fid.zf3e [a0] = zf3e.f a0 :=
  (cv_eq gp fid.zf3e [a0] zf3e.fn_eq).trans (by kernel_rfl)

noncomputable def zf3t.fn : AFun := (gp.fn fid.zf3t).getD default
theorem zf3t.fn_eq : gp.fn fid.zf3t = some zf3t.fn := by kernel_rfl
noncomputable def zf3t.l0 (y6 : AV) (y7 : AV) (y8 : AV) (hh : Heap) : Option AV := loopAt gp zf3t.fn [true, false, true, false] (fun v h => freeze h v) ⟨frame 18 [(6, y6), (7, y7), (8, y8)], hh⟩
noncomputable def zf3t.f (a0 : AV) : Option AV :=
  (opLen false a0).bind fun v1 => zf3t.l0 a0 v1 (.int .i64 0) []
theorem zf3t.l0_eq (y6 : AV) (y7 : AV) (y8 : AV) (hh : Heap) : zf3t.l0 y6 y7 y8 hh =
    ((opBin .lss y8 y7).bind fun v2 => condK v2 ((opSidx 6 y6 y8).bind fun v3 => (opLoad hh (some 6) v3).bind fun v4 => (opStore (@HAppend.hAppend Heap Heap Heap _ hh [some [.bool false, .str ⟨#[]⟩, .str ⟨#[]⟩, .bool false, .str ⟨#[]⟩, .str ⟨#[]⟩]]) 6 (.rp (List.length (hh : Heap)) 0) v4).bind fun h5 => (opLoad h5 (some 6) (.rp (List.length (hh : Heap)) 0)).bind fun v6 => (byVal (callW gp) h5 fid.zf2v [v6]).bind fun v7 => (opBin .neq v7 (.int .i64 0)).bind fun v8 => condK v8 (freeze h5 v7) ((opBin .add y8 (.int .i64 1)).bind fun v9 => zf3t.l0 y6 y7 v9 h5)) (freeze hh (.int .i64 0))) :=
  (loopAt_eq gp zf3t.fn [true, false, true, false] (fun v h => freeze h v) ⟨frame 18 [(6, y6), (7, y7), (8, y8)], hh⟩).trans (by kernel_rfl)
theorem zf3t.eq (a0 : AV) : cv gp fid.zf3t [a0] = zf3t.f a0 :=
  (cv_eq gp fid.zf3t [a0] zf3t.fn_eq).trans (by kernel_rfl)

noncomputable def zf3u.fn : AFun := (gp.fn fid.zf3u).getD default
theorem zf3u.fn_eq : gp.fn fid.zf3u = some zf3u.fn := by kernel_rfl
noncomputable def zf3u.f (a0 : AV) (a1 : AV) (a2 : AV) (a3 : AV) (a4 : AV) : Option AV :=
  (opBox [] a0).bind fun r1 => (opBox r1.2 a1).bind fun r2 => (opBox r2.2 a2).bind fun r3 => (opBox r3.2 a3).bind fun r4 => (opLoad (@HAppend.hAppend Heap Heap Heap _ r4.2 [some [.bool false, .str ⟨#[]⟩, .str ⟨#[]⟩]]) (some 3) r1.1).bind fun v5 => (opLoad (@HAppend.hAppend Heap Heap Heap _ r4.2 [some [.bool false, .str ⟨#[]⟩, .str ⟨#[]⟩]]) (some 3) r3.1).bind fun v6 => (opLoad (@HAppend.hAppend Heap Heap Heap _ r4.2 [some [.bool false, .str ⟨#[]⟩, .str ⟨#[]⟩]]) (some 3) r2.1).bind fun v7 => (opLoad (@HAppend.hAppend Heap Heap Heap _ r4.2 [some [.bool false, .str ⟨#[]⟩, .str ⟨#[]⟩]]) (some 3) r4.1).bind fun v8 => (opBslc 3 4 [.bool false, .str ⟨#[]⟩, .str ⟨#[]⟩] [(0, v5), (1, v6), (2, v7), (3, v8)]).bind fun v9 => (byVal (callW gp) (@HAppend.hAppend Heap Heap Heap _ r4.2 [some [.bool false, .str ⟨#[]⟩, .str ⟨#[]⟩]]) fid.zf3e [v9]).bind fun v10 => (opBin .neq v10 (.int .i64 0)).bind fun v11 => condK v11 ((opBld [.bool false, .str ⟨#[]⟩, .str ⟨#[]⟩] []).bind fun v12 => (opStore (@HAppend.hAppend Heap Heap Heap _ r4.2 [some [.bool false, .str ⟨#[]⟩, .str ⟨#[]⟩]]) 3 (.rp (List.length (r4.2 : Heap)) 0) v12).bind fun h13 => (opLoad h13 (some 3) (.rp (List.length (r4.2 : Heap)) 0)).bind fun v14 => freeze h13 (.tup [v14, v10])) ((opLoad (@HAppend.hAppend Heap Heap Heap _ r4.2 [some [.bool false, .str ⟨#[]⟩, .str ⟨#[]⟩]]) (some 3) r1.1).bind fun v15 => (opLoad (@HAppend.hAppend Heap Heap Heap _ r4.2 [some [.bool false, .str ⟨#[]⟩, .str ⟨#[]⟩]]) (some 3) r2.1).bind fun v16 => (byVal (callW gp) (@HAppend.hAppend Heap Heap Heap _ r4.2 [some [.bool false, .str ⟨#[]⟩, .str ⟨#[]⟩]]) fid.zf4d [(.fn fid.zf1d []), v15, v16]).bind fun v17 => (opLoad (@HAppend.hAppend Heap Heap Heap _ r4.2 [some [.bool false, .str ⟨#[]⟩, .str ⟨#[]⟩]]) (some 3) r3.1).bind fun v18 => (opLoad (@HAppend.hAppend Heap Heap Heap _ r4.2 [some [.bool false, .str ⟨#[]⟩, .str ⟨#[]⟩]]) (some 3) r4.1).bind fun v19 => (byVal (callW gp) (@HAppend.hAppend Heap Heap Heap _ r4.2 [some [.bool false, .str ⟨#[]⟩, .str ⟨#[]⟩]]) fid.zf4d [(.fn fid.zf1d []), v18, v19]).bind fun v20 => (byVal (callW gp) (@HAppend.hAppend Heap Heap Heap _ r4.2 [some [.bool false, .str ⟨#[]⟩, .str ⟨#[]⟩]]) fid.zf4d [a4, v17, v20]).bind fun v21 => (opStore (@HAppend.hAppend Heap Heap Heap _ r4.2 [some [.bool false, .str ⟨#[]⟩, .str ⟨#[]⟩]]) 3 (.rp (List.length (r4.2 : Heap)) 0) v21).bind fun h22 => (opLoad h22 (some 3) (.rp (List.length (r4.2 : Heap)) 0)).bind fun v23 => freeze h22 (.tup [v23, (.int .i64 0)]))
theorem zf3u.eq (a0 : AV) (a1 : AV) (a2 : AV) (a3 : AV) (a4 : AV) : cv gp fid.zf3u [a0, a1, a2, a3, a4] = zf3u.f a0 a1 a2 a3 a4 :=
  (cv_eq gp fid.zf3u [a0, a1, a2, a3, a4] zf3u.fn_eq).trans (by kernel_rfl)

noncomputable def zf3w.fn : AFun := (gp.fn fid.zf3w).getD default
theorem zf3w.fn_eq : gp.fn fid.zf3w = some zf3w.fn := by kernel_rfl
noncomputable def zf3w.f (a0 : AV) (a1 : AV) (a2 : AV) : Option AV :=
  (opBox [] a0).bind fun r1 => (opBox r1.2 a1).bind fun r2 => (opLoad (@HAppend.hAppend Heap Heap Heap _ r2.2 [some [.bool false, .str ⟨#[]⟩, .str ⟨#[]⟩, .bool false, .str ⟨#[]⟩, .str ⟨#[]⟩]]) (some 6) r1.1).bind fun v3 => (opLoad (@HAppend.hAppend Heap Heap Heap _ r2.2 [some [.bool false, .str ⟨#[]⟩, .str ⟨#[]⟩, .bool false, .str ⟨#[]⟩, .str ⟨#[]⟩]]) (some 6) r2.1).bind fun v4 => (opBslc 6 2 [.bool false, .str ⟨#[]⟩, .str ⟨#[]⟩, .bool false, .str ⟨#[]⟩, .str ⟨#[]⟩] [(0, v3), (1, v4)]).bind fun v5 => (byVal (callW gp) (@HAppend.hAppend Heap Heap Heap _ r2.2 [some [.bool false, .str ⟨#[]⟩, .str ⟨#[]⟩, .bool false, .str ⟨#[]⟩, .str ⟨#[]⟩]]) fid.zf3t [v5]).bind fun v6 => (opBin .neq v6 (.int .i64 0)).bind fun v7 => condK v7 ((opBld [.bool false, .str ⟨#[]⟩, .str ⟨#[]⟩, .bool false, .str ⟨#[]⟩, .str ⟨#[]⟩] []).bind fun v8 => (opStore (@HAppend.hAppend Heap Heap Heap _ r2.2 [some [.bool false, .str ⟨#[]⟩, .str ⟨#[]⟩, .bool false, .str ⟨#[]⟩, .str ⟨#[]⟩]]) 6 (.rp (List.length (r2.2 : Heap)) 0) v8).bind fun h9 => (opLoad h9 (some 6) (.rp (List.length (r2.2 : Heap)) 0)).bind fun v10 => freeze h9 (.tup [v10, v6])) ((opFaddr 0 r1.1).bind fun v11 => (opLoad (@HAppend.hAppend Heap Heap Heap _ r2.2 [some [.bool false, .str ⟨#[]⟩, .str ⟨#[]⟩, .bool false, .str ⟨#[]⟩, .str ⟨#[]⟩]]) (some 3) v11).bind fun v12 => (opFaddr 0 r2.1).bind fun v13 => (opLoad (@HAppend.hAppend Heap Heap Heap _ r2.2 [some [.bool false, .str ⟨#[]⟩, .str ⟨#[]⟩, .bool false, .str ⟨#[]⟩, .str ⟨#[]⟩]]) (some 3) v13).bind fun v14 => (byVal (callW gp) (@HAppend.hAppend Heap Heap Heap _ r2.2 [some [.bool false, .str ⟨#[]⟩, .str ⟨#[]⟩, .bool false, .str ⟨#[]⟩, .str ⟨#[]⟩]]) fid.zf4d [a2, v12, v14]).bind fun v15 => (opFaddr 3 r1.1).bind fun v16 => (opLoad (@HAppend.hAppend Heap Heap Heap _ r2.2 [some [.bool false, .str ⟨#[]⟩, .str ⟨#[]⟩, .bool false, .str ⟨#[]⟩, .str ⟨#[]⟩]]) (some 3) v16).bind fun v17 => (opFaddr 3 r2.1).bind fun v18 => (opLoad (@HAppend.hAppend Heap Heap Heap _ r2.2 [some [.bool false, .str ⟨#[]⟩, .str ⟨#[]⟩, .bool false, .str ⟨#[]⟩, .str ⟨#[]⟩]]) (some 3) v18).bind fun v19 => (byVal (callW gp) (@HAppend.hAppend Heap Heap Heap _ r2.2 [some [.bool false, .str ⟨#[]⟩, .str ⟨#[]⟩, .bool false, .str ⟨#[]⟩, .str ⟨#[]⟩]]) fid.zf4d [a2, v17, v19]).bind fun v20 => (opBld [.bool false, .str ⟨#[]⟩, .str ⟨#[]⟩, .bool false, .str ⟨#[]⟩, .str ⟨#[]⟩] [(0, 3, v15), (3, 3, v20)]).bind fun v21 => (opStore (@HAppend.hAppend Heap Heap Heap _ r2.2 [some [.bool false, .str ⟨#[]⟩, .str ⟨#[]⟩, .bool false, .str ⟨#[]⟩, .str ⟨#[]⟩]]) 6 (.rp (List.length (r2.2 : Heap)) 0) v21).bind fun h22 => (opLoad h22 (some 6) (.rp (List.length (r2.2 : Heap)) 0)).bind fun v23 => freeze h22 (.tup [v23, (.int .i64 0)]))
theorem zf3w.eq (a0 : AV) (a1 : AV) (a2 : AV) : cv gp fid.zf3w [a0, a1, a2] = zf3w.f a0 a1 a2 :=
  (cv_eq gp fid.zf3w [a0, a1, a2] zf3w.fn_eq).trans (by kernel_rfl)

noncomputable def zf4d.fn : AFun := (gp.fn fid.zf4d).getD default
theorem zf4d.fn_eq : gp.fn fid.zf4d = some zf4d.fn := by kernel_rfl
noncomputable def zf4d.f (a0 : AV) (a1 : AV) (a2 : AV) : Option AV :=
  (opBox [] a1).bind fun r1 => (opBox r1.2 a2).bind fun r2 => (opLoad (@HAppend.hAppend Heap Heap Heap _ r2.2 [some [.bool false, .str ⟨#[]⟩, .str ⟨#[]⟩]]) (some 3) r1.1).bind fun v3 => (opLoad (@HAppend.hAppend Heap Heap Heap _ r2.2 [some [.bool false, .str ⟨#[]⟩, .str ⟨#[]⟩]]) (some 3) r2.1).bind fun v4 => callK' (callW gp) gp.refm (@HAppend.hAppend Heap Heap Heap _ r2.2 [some [.bool false, .str ⟨#[]⟩, .str ⟨#[]⟩]]) a0 [v3, v4] fun v5 h6 => (opExt 0 v5).bind fun v7 => (opExt 1 v5).bind fun v8 => (opStore (@HAppend.hAppend Heap Heap Heap _ h6 [some [.bool false, .str ⟨#[]⟩, .str ⟨#[]⟩]]) 3 (.rp (List.length (h6 : Heap)) 0) v7).bind fun h9 => (opLoad h9 (some 3) (.rp (List.length (h6 : Heap)) 0)).bind fun v10 => (opStore h9 3 (.rp (List.length (r2.2 : Heap)) 0) v10).bind fun h11 => (opLoad h11 (some 3) (.rp (List.length (r2.2 : Heap)) 0)).bind fun v12 => freeze h11 v12
theorem zf4d.eq (a0 : AV) (a1 : AV) (a2 : AV) : cv gp fid.zf4d [a0, a1, a2] = zf4d.f a0 a1 a2 :=
  (cv_eq gp fid.zf4d [a0, a1, a2] zf4d.fn_eq).trans (by kernel_rfl)

end Go.Proofs.YtojfiboeghonoaaGreat.Am
