import Derived.Test.YtojfiboeghonoaaGreatAmGp
set_option linter.unusedVariables false
set_option maxRecDepth 10000
set_option maxHeartbeats 0
namespace Go.Proofs.YtojfiboeghonoaaGreat.Am
open Go
/-! gusset gussetref05.Asked -/
noncomputable def zf0e.fn : AFun := (gp.fn fid.zf0e).getD default
theorem zf0e.fn_eq : gp.fn fid.zf0e = some zf0e.fn := by kernel_rfl
noncomputable def zf0e.l0 (y0 : AV) (y3 : AV) : Option AV := loopAt gp zf0e.fn [true, false, true, false] (fun v h => freeze h v) ⟨frame 33 [(0, y0), (3, y3)], []⟩
noncomputable def zf0e.f (a0 : AV) : Option AV :=
  zf0e.l0 a0 (.int .i64 0)
theorem zf0e.l0_eq (y0 : AV) (y3 : AV) : zf0e.l0 y0 y3 =
    ((opLen false y0).bind fun v1 => (opBin .lss y3 v1).bind fun v2 => condK v2 ((opSidx 6 y0 y3).bind fun v3 => (opFaddr 0 v3).bind fun v4 => (opLoad [] (some 3) v4).bind fun v5 => (byVal (callW gp) [] fid.zf10 [v5]).bind fun v6 => guardK v6 false ((opSidx 6 y0 y3).bind fun v7 => (opFaddr 3 v7).bind fun v8 => (opLoad [] (some 3) v8).bind fun v9 => (byVal (callW gp) [] fid.zf10 [v9]).bind fun v10 => condK v10 (freeze [] (.int .i64 5)) ((opSidx 6 y0 y3).bind fun v11 => (opLoad [] (some 6) v11).bind fun v12 => (byVal (callW gp) [] fid.zf11 [v12]).bind fun v13 => (opBin .neq v13 (.int .i64 0)).bind fun v14 => condK v14 (freeze [] v13) ((opBin .add y3 (.int .i64 1)).bind fun v15 => zf0e.l0 y0 v15))) (freeze [] (.int .i64 5))) (freeze [] (.int .i64 0))) :=
  (loopAt_eq gp zf0e.fn [true, false, true, false] (fun v h => freeze h v) ⟨frame 33 [(0, y0), (3, y3)], []⟩).trans (by kernel_rfl)
theorem zf0e.eq (a0 : AV) : cv gp fid.zf0e [a0] = zf0e.f a0 :=
  (cv_eq gp fid.zf0e [a0] zf0e.fn_eq).trans (by kernel_rfl)

noncomputable def zf10.fn : AFun := (gp.fn fid.zf10).getD default
theorem zf10.fn_eq : gp.fn fid.zf10 = some zf10.fn := by kernel_rfl
noncomputable def zf10.f (a0 : AV) : Option AV :=
  (opBox [] a0).bind fun r1 => (opFaddr 0 r1.1).bind fun v2 => (opFaddr 1 v2).bind fun v3 => (opLoad r1.2 none v3).bind fun v4 => (opLen true v4).bind fun v5 => (opBin .gtr v5 (.int .i64 100)).bind fun v6 => guardK v6 false ((opFaddr 2 r1.1).bind fun v7 => (opLoad r1.2 none v7).bind fun v8 => (opLen true v8).bind fun v9 => (opBin .gtr v9 (.int .i64 100)).bind fun v10 => freeze r1.2 v10) (freeze r1.2 (.bool true))
theorem zf10.eq (a0 : AV) : cv gp fid.zf10 [a0] = zf10.f a0 :=
  (cv_eq gp fid.zf10 [a0] zf10.fn_eq).trans (by kernel_rfl)

noncomputable def zf14.fn : AFun := (gp.fn fid.zf14).getD default
theorem zf14.fn_eq : gp.fn fid.zf14 = some zf14.fn := by kernel_rfl
noncomputable def zf14.f (a0 : AV) (a1 : AV) (a2 : AV) : Option AV :=
  (opBox [] a0).bind fun r1 => (opBox r1.2 a1).bind fun r2 => (opBox r2.2 a2).bind fun r3 => (opLoad r3.2 (some 6) r1.1).bind fun v4 => (opLoad r3.2 (some 6) r2.1).bind fun v5 => (opLoad r3.2 (some 6) r3.1).bind fun v6 => (opBslc 6 3 [.bool false, .str ⟨#[]⟩, .str ⟨#[]⟩, .bool false, .str ⟨#[]⟩, .str ⟨#[]⟩] [(0, v4), (1, v5), (2, v6)]).bind fun v7 => (byVal (callW gp) r3.2 fid.zf1t [v7]).bind fun v8 => (opBin .neq v8 (.int .i64 0)).bind fun v9 => condK v9 (freeze r3.2 (.tup [(.int .i64 0), v8])) ((opLoad r3.2 (some 6) r1.1).bind fun v10 => (opLoad r3.2 (some 6) r2.1).bind fun v11 => (opLoad r3.2 (some 6) r3.1).bind fun v12 => (byVal (callW gp) r3.2 fid.zf1u [v10, v11, v12]).bind fun v13 => freeze r3.2 (.tup [v13, (.int .i64 0)]))
theorem zf14.eq (a0 : AV) (a1 : AV) (a2 : AV) : cv gp fid.zf14 [a0, a1, a2] = zf14.f a0 a1 a2 :=
  (cv_eq gp fid.zf14 [a0, a1, a2] zf14.fn_eq).trans (by kernel_rfl)

noncomputable def zf16.fn : AFun := (gp.fn fid.zf16).getD default
theorem zf16.fn_eq : gp.fn fid.zf16 = some zf16.fn := by kernel_rfl
noncomputable def zf16.f (a0 : AV) (a1 : AV) (a2 : AV) : Option AV :=
  (opBox [] a0).bind fun r1 => (opBox r1.2 a1).bind fun r2 => (opBox r2.2 a2).bind fun r3 => (opLoad r3.2 (some 6) r2.1).bind fun v4 => (opLoad r3.2 (some 6) r1.1).bind fun v5 => (byVal (callW gp) r3.2 fid.zf1x [v4, v5]).bind fun v6 => (opLoad r3.2 (some 6) r3.1).bind fun v7 => (opLoad r3.2 (some 6) r1.1).bind fun v8 => (byVal (callW gp) r3.2 fid.zf1x [v7, v8]).bind fun v9 => (byVal (callW gp) r3.2 fid.zf1w [v6, v9]).bind fun v10 => (byVal (callW gp) r3.2 fid.zf1v [v10]).bind fun v11 => freeze r3.2 v11
theorem zf16.eq (a0 : AV) (a1 : AV) (a2 : AV) : cv gp fid.zf16 [a0, a1, a2] = zf16.f a0 a1 a2 :=
  (cv_eq gp fid.zf16 [a0, a1, a2] zf16.fn_eq).trans (by kernel_rfl)

noncomputable def zf1q.fn : AFun := (gp.fn fid.zf1q).getD default
theorem zf1q.fn_eq : gp.fn fid.zf1q = some zf1q.fn := by kernel_rfl
noncomputable def zf1q.f (a0 : AV) (a1 : AV) (a2 : AV) (a3 : AV) : Option AV :=
  (opBox [] a0).bind fun r1 => (opBox r1.2 a1).bind fun r2 => (opBox r2.2 a2).bind fun r3 => (opBox r3.2 a3).bind fun r4 => (opLoad r4.2 (some 6) r1.1).bind fun v5 => (opLoad r4.2 (some 6) r2.1).bind fun v6 => (opLoad r4.2 (some 6) r3.1).bind fun v7 => (opLoad r4.2 (some 6) r4.1).bind fun v8 => (opBslc 6 4 [.bool false, .str ⟨#[]⟩, .str ⟨#[]⟩, .bool false, .str ⟨#[]⟩, .str ⟨#[]⟩] [(0, v5), (1, v6), (2, v7), (3, v8)]).bind fun v9 => (byVal (callW gp) r4.2 fid.zf1t [v9]).bind fun v10 => (opBin .neq v10 (.int .i64 0)).bind fun v11 => condK v11 (freeze r4.2 (.tup [(.int .i64 0), v10])) ((opLoad r4.2 (some 6) r1.1).bind fun v12 => (opLoad r4.2 (some 6) r2.1).bind fun v13 => (opLoad r4.2 (some 6) r3.1).bind fun v14 => (byVal (callW gp) r4.2 fid.zf1u [v12, v13, v14]).bind fun v15 => (opBin .eql v15 (.int .i64 0)).bind fun v16 => condK v16 (freeze r4.2 (.tup [(.int .i64 0), (.int .i64 6)])) ((opLoad r4.2 (some 6) r1.1).bind fun v17 => (opLoad r4.2 (some 6) r2.1).bind fun v18 => (opLoad r4.2 (some 6) r4.1).bind fun v19 => (byVal (callW gp) r4.2 fid.zf1u [v17, v18, v19]).bind fun v20 => (opBin .mul v15 v20).bind fun v21 => (opLoad r4.2 (some 6) r2.1).bind fun v22 => (opLoad r4.2 (some 6) r3.1).bind fun v23 => (opLoad r4.2 (some 6) r4.1).bind fun v24 => (byVal (callW gp) r4.2 fid.zf1u [v22, v23, v24]).bind fun v25 => (opBin .mul v15 v25).bind fun v26 => (opLoad r4.2 (some 6) r3.1).bind fun v27 => (opLoad r4.2 (some 6) r1.1).bind fun v28 => (opLoad r4.2 (some 6) r4.1).bind fun v29 => (byVal (callW gp) r4.2 fid.zf1u [v27, v28, v29]).bind fun v30 => (opBin .mul v15 v30).bind fun v31 => (opMm false [v21, v26, v31]).bind fun v32 => freeze r4.2 (.tup [v32, (.int .i64 0)])))
theorem zf1q.eq (a0 : AV) (a1 : AV) (a2 : AV) (a3 : AV) : cv gp fid.zf1q [a0, a1, a2, a3] = zf1q.f a0 a1 a2 a3 :=
  (cv_eq gp fid.zf1q [a0, a1, a2, a3] zf1q.fn_eq).trans (by kernel_rfl)

noncomputable def zf1t.fn : AFun := (gp.fn fid.zf1t).getD default
theorem zf1t.fn_eq : gp.fn fid.zf1t = some zf1t.fn := by kernel_rfl
noncomputable def zf1t.l1 (y4 : AV) (y8 : AV) (y9 : AV) (y10 : AV) (y18 : AV) (y19 : AV) (y20 : AV) (hh : Heap) : Option AV := loopAt gp zf1t.fn [true, false, true, false, false, true, true, false, false, true, false, true, false] (fun v h => freeze h v) ⟨frame 42 [(4, y4), (8, y8), (9, y9), (10, y10), (18, y18), (19, y19), (20, y20)], hh⟩
noncomputable def zf1t.l0 (y8 : AV) (y9 : AV) (y10 : AV) (hh : Heap) : Option AV := loopAt gp zf1t.fn [true, false, true, false] (fun v h => freeze h v) ⟨frame 42 [(8, y8), (9, y9), (10, y10)], hh⟩
noncomputable def zf1t.f (a0 : AV) : Option AV :=
  (opLen false a0).bind fun v1 => zf1t.l0 a0 v1 (.int .i64 0) []
theorem zf1t.l1_eq (y4 : AV) (y8 : AV) (y9 : AV) (y10 : AV) (y18 : AV) (y19 : AV) (y20 : AV) (hh : Heap) : zf1t.l1 y4 y8 y9 y10 y18 y19 y20 hh =
    ((opBin .lss y20 y19).bind fun v12 => condK v12 ((opSidx 3 y18 y20).bind fun v13 => (opLoad hh (some 3) v13).bind fun v14 => (opStore (@HAppend.hAppend Heap Heap Heap _ hh [some [.bool false, .str ⟨#[]⟩, .str ⟨#[]⟩]]) 3 (.rp (List.length (hh : Heap)) 0) v14).bind fun h15 => (opFaddr 0 (.rp (List.length (hh : Heap)) 0)).bind fun v16 => (opFaddr 1 v16).bind fun v17 => (opLoad h15 none v17).bind fun v18 => (opLen true v18).bind fun v19 => (opBin .gtr v19 (.int .i64 100)).bind fun v20 => guardK v20 false ((opFaddr 2 (.rp (List.length (hh : Heap)) 0)).bind fun v21 => (opLoad h15 none v21).bind fun v22 => (opLen true v22).bind fun v23 => (opBin .gtr v23 (.int .i64 100)).bind fun v24 => condK v24 (freeze h15 (.int .i64 5)) ((opBin .add y20 (.int .i64 1)).bind fun v25 => zf1t.l1 y4 y8 y9 y10 y18 y19 v25 h15)) (freeze h15 (.int .i64 5))) ((opLoad hh (some 6) y4).bind fun v26 => (byVal (callW gp) hh fid.zf2v [v26]).bind fun v27 => (opBin .neq v27 (.int .i64 0)).bind fun v28 => condK v28 (freeze hh v27) ((opBin .add y10 (.int .i64 1)).bind fun v29 => zf1t.l0 y8 y9 v29 hh))) :=
  (loopAt_eq gp zf1t.fn [true, false, true, false, false, true, true, false, false, true, false, true, false] (fun v h => freeze h v) ⟨frame 42 [(4, y4), (8, y8), (9, y9), (10, y10), (18, y18), (19, y19), (20, y20)], hh⟩).trans (by kernel_rfl)
theorem zf1t.l0_eq (y8 : AV) (y9 : AV) (y10 : AV) (hh : Heap) : zf1t.l0 y8 y9 y10 hh =
    ((opBin .lss y10 y9).bind fun v2 => condK v2 ((opSidx 6 y8 y10).bind fun v3 => (opLoad hh (some 6) v3).bind fun v4 => (opStore (@HAppend.hAppend Heap Heap Heap _ hh [some [.bool false, .str ⟨#[]⟩, .str ⟨#[]⟩, .bool false, .str ⟨#[]⟩, .str ⟨#[]⟩]]) 6 (.rp (List.length (hh : Heap)) 0) v4).bind fun h5 => (opFaddr 0 (.rp (List.length (hh : Heap)) 0)).bind fun v6 => (opLoad h5 (some 3) v6).bind fun v7 => (opFaddr 3 (.rp (List.length (hh : Heap)) 0)).bind fun v8 => (opLoad h5 (some 3) v8).bind fun v9 => (opBslc 3 2 [.bool false, .str ⟨#[]⟩, .str ⟨#[]⟩] [(0, v7), (1, v9)]).bind fun v10 => (opLen false v10).bind fun v11 => zf1t.l1 (.rp (List.length (hh : Heap)) 0) y8 y9 y10 v10 v11 (.int .i64 0) h5) (freeze hh (.int .i64 0))) :=
  (loopAt_eq gp zf1t.fn [true, false, true, false] (fun v h => freeze h v) ⟨frame 42 [(8, y8), (9, y9), (10, y10)], hh⟩).trans (by kernel_rfl)
theorem zf1t.eq (a0 : AV) : cv gp fid.zf1t [a0] = zf1t.f a0 :=
  (cv_eq gp fid.zf1t [a0] zf1t.fn_eq).trans (by kernel_rfl)

noncomputable def zf1u.fn : AFun := (gp.fn fid.zf1u).getD default
theorem zf1u.fn_eq : gp.fn fid.zf1u = some zf1u.fn := by kernel_rfl
noncomputable def zf1u.f (a0 : AV) (a1 : AV) (a2 : AV) : Option AV :=
  (opBox [] a0).bind fun r1 => (opBox r1.2 a1).bind fun r2 => (opBox r2.2 a2).bind fun r3 => (opLoad r3.2 (some 6) r2.1).bind fun v4 => (opLoad r3.2 (some 6) r1.1).bind fun v5 => (byVal (callW gp) r3.2 fid.zf2y [v4, v5]).bind fun v6 => (opLoad r3.2 (some 6) r3.1).bind fun v7 => (opLoad r3.2 (some 6) r1.1).bind fun v8 => (byVal (callW gp) r3.2 fid.zf2y [v7, v8]).bind fun v9 => (byVal (callW gp) r3.2 fid.zf2x [v6, v9]).bind fun v10 => (byVal (callW gp) r3.2 fid.zf2w [v10]).bind fun v11 => freeze r3.2 v11
theorem zf1u.eq (a0 : AV) (a1 : AV) (a2 : AV) : cv gp fid.zf1u [a0, a1, a2] = zf1u.f a0 a1 a2 :=
  (cv_eq gp fid.zf1u [a0, a1, a2] zf1u.fn_eq).trans (by kernel_rfl)

noncomputable def zf2w.fn : AFun := (gp.fn fid.zf2w).getD default
theorem zf2w.fn_eq : gp.fn fid.zf2w = some zf2w.fn := by kernel_rfl
noncomputable def zf2w.f (a0 : AV) : Option AV :=
  (opBox [] a0).bind fun r1 => (opLoad r1.2 (some 3) r1.1).bind fun v2 => (byVal (callW gp) r1.2 fid.zf3f [v2]).bind fun v3 => (opExt 0 v3).bind fun v4 => (opExt 1 v3).bind fun v5 => freeze r1.2 v4
theorem zf2w.eq (a0 : AV) : cv gp fid.zf2w [a0] = zf2w.f a0 :=
  (cv_eq gp fid.zf2w [a0] zf2w.fn_eq).trans (by kernel_rfl)

noncomputable def zf2x.fn : AFun := (gp.fn fid.zf2x).getD default
theorem zf2x.fn_eq : gp.fn fid.zf2x = some zf2x.fn := by kernel_rfl
noncomputable def zf2x.f (a0 : AV) (a1 : AV) : Option AV :=
  (opBox [] a0).bind fun r1 => (opBox r1.2 a1).bind fun r2 => (opLoad (@HAppend.hAppend Heap Heap Heap _ r2.2 [some [.bool false, .str ⟨#[]⟩, .str ⟨#[]⟩]]) (some 6) r1.1).bind fun v3 => (opLoad (@HAppend.hAppend Heap Heap Heap _ r2.2 [some [.bool false, .str ⟨#[]⟩, .str ⟨#[]⟩]]) (some 6) r2.1).bind fun v4 => (byVal (callW gp) (@HAppend.hAppend Heap Heap Heap _ r2.2 [some [.bool false, .str ⟨#[]⟩, .str ⟨#[]⟩]]) fid.zf34 [v3, v4]).bind fun v5 => (opExt 0 v5).bind fun v6 => (opExt 1 v5).bind fun v7 => (opStore (@HAppend.hAppend Heap Heap Heap _ (@HAppend.hAppend Heap Heap Heap _ r2.2 [some [.bool false, .str ⟨#[]⟩, .str ⟨#[]⟩]]) [some [.bool false, .str ⟨#[]⟩, .str ⟨#[]⟩]]) 3 (.rp (List.length ((@HAppend.hAppend Heap Heap Heap _ r2.2 [some [.bool false, .str ⟨#[]⟩, .str ⟨#[]⟩]]) : Heap)) 0) v6).bind fun h8 => (opLoad h8 (some 3) (.rp (List.length ((@HAppend.hAppend Heap Heap Heap _ r2.2 [some [.bool false, .str ⟨#[]⟩, .str ⟨#[]⟩]]) : Heap)) 0)).bind fun v9 => (opStore h8 3 (.rp (List.length (r2.2 : Heap)) 0) v9).bind fun h10 => (opLoad h10 (some 3) (.rp (List.length (r2.2 : Heap)) 0)).bind fun v11 => freeze h10 v11
theorem zf2x.eq (a0 : AV) (a1 : AV) : cv gp fid.zf2x [a0, a1] = zf2x.f a0 a1 :=
  (cv_eq gp fid.zf2x [a0, a1] zf2x.fn_eq).trans (by kernel_rfl)

noncomputable def zf2y.fn : AFun := (gp.fn fid.zf2y).getD default
theorem zf2y.fn_eq : gp.fn fid.zf2y = some zf2y.fn := by kernel_rfl
noncomputable def zf2y.f (a0 : AV) (a1 : AV) : Option AV :=
  (opBox [] a0).bind fun r1 => (opBox r1.2 a1).bind fun r2 => (opLoad (@HAppend.hAppend Heap Heap Heap _ r2.2 [some [.bool false, .str ⟨#[]⟩, .str ⟨#[]⟩, .bool false, .str ⟨#[]⟩, .str ⟨#[]⟩]]) (some 6) r1.1).bind fun v3 => (opLoad (@HAppend.hAppend Heap Heap Heap _ r2.2 [some [.bool false, .str ⟨#[]⟩, .str ⟨#[]⟩, .bool false, .str ⟨#[]⟩, .str ⟨#[]⟩]]) (some 6) r2.1).bind fun v4 => (byVal (callW gp) (@HAppend.hAppend Heap Heap Heap _ r2.2 [some [.bool false, .str ⟨#[]⟩, .str ⟨#[]⟩, .bool false, .str ⟨#[]⟩, .str ⟨#[]⟩]]) fid.zf35 [v3, v4]).bind fun v5 => (opExt 0 v5).bind fun v6 => (opExt 1 v5).bind fun v7 => (opStore (@HAppend.hAppend Heap Heap Heap _ (@HAppend.hAppend Heap Heap Heap _ r2.2 [some [.bool false, .str ⟨#[]⟩, .str ⟨#[]⟩, .bool false, .str ⟨#[]⟩, .str ⟨#[]⟩]]) [some [.bool false, .str ⟨#[]⟩, .str ⟨#[]⟩, .bool false, .str ⟨#[]⟩, .str ⟨#[]⟩]]) 6 (.rp (List.length ((@HAppend.hAppend Heap Heap Heap _ r2.2 [some [.bool false, .str ⟨#[]⟩, .str ⟨#[]⟩, .bool false, .str ⟨#[]⟩, .str ⟨#[]⟩]]) : Heap)) 0) v6).bind fun h8 => (opLoad h8 (some 6) (.rp (List.length ((@HAppend.hAppend Heap Heap Heap _ r2.2 [some [.bool false, .str ⟨#[]⟩, .str ⟨#[]⟩, .bool false, .str ⟨#[]⟩, .str ⟨#[]⟩]]) : Heap)) 0)).bind fun v9 => (opStore h8 6 (.rp (List.length (r2.2 : Heap)) 0) v9).bind fun h10 => (opLoad h10 (some 6) (.rp (List.length (r2.2 : Heap)) 0)).bind fun v11 => freeze h10 v11
theorem zf2y.eq (a0 : AV) (a1 : AV) : cv gp fid.zf2y [a0, a1] = zf2y.f a0 a1 :=
  (cv_eq gp fid.zf2y [a0, a1] zf2y.fn_eq).trans (by kernel_rfl)

end Go.Proofs.YtojfiboeghonoaaGreat.Am
