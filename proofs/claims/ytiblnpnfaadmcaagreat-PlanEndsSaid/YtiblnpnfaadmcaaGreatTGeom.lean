import Derived.Test.YtiblnpnfaadmcaaGreatAmGp
set_option linter.unusedVariables false
set_option maxRecDepth 10000
set_option maxHeartbeats 0
namespace Go.Proofs.YtiblnpnfaadmcaaGreat.Am
open Go
/-! gusset gussetref05.Asked -/
noncomputable def zf1h.fn : AFun := (gp.fn fid.zf1h).getD default
theorem zf1h.fn_eq : gp.fn fid.zf1h = some zf1h.fn := by kernel_rfl
noncomputable def zf1h.f (a0 : AV) (a1 : AV) (a2 : AV) : Option AV :=
  (opBox [] a0).bind fun r1 => (opBox r1.2 a1).bind fun r2 => (opBox r2.2 a2).bind fun r3 => (opLoad r3.2 (some 6) r1.1).bind fun v4 => (opLoad r3.2 (some 6) r2.1).bind fun v5 => (opLoad r3.2 (some 6) r3.1).bind fun v6 => (opBslc 6 3 [.bool false, .str ⟨#[]⟩, .str ⟨#[]⟩, .bool false, .str ⟨#[]⟩, .str ⟨#[]⟩] [(0, v4), (1, v5), (2, v6)]).bind fun v7 => (byVal (callW gp) r3.2 fid.zf25 [v7]).bind fun v8 => (opBin .neq v8 (.int .i64 0)).bind fun v9 => condK v9 (freeze r3.2 (.tup [(.int .i64 0), v8])) ((opLoad r3.2 (some 6) r1.1).bind fun v10 => (opLoad r3.2 (some 6) r2.1).bind fun v11 => (opLoad r3.2 (some 6) r3.1).bind fun v12 => (byVal (callW gp) r3.2 fid.zf26 [v10, v11, v12]).bind fun v13 => freeze r3.2 (.tup [v13, (.int .i64 0)]))
theorem zf1h.eq (a0 : AV) (a1 : AV) (a2 : AV) : cv gp fid.zf1h [a0, a1, a2] = zf1h.f a0 a1 a2 :=
  (cv_eq gp fid.zf1h [a0, a1, a2] zf1h.fn_eq).trans (by kernel_rfl)

noncomputable def zf1o.fn : AFun := (gp.fn fid.zf1o).getD default
theorem zf1o.fn_eq : gp.fn fid.zf1o = some zf1o.fn := by kernel_rfl
noncomputable def zf1o.j0 (y4 : AV) (y5 : AV) (y6 : AV) (y7 : AV) (y20 : AV) (hh : Heap) : Option AV :=
  condK y20 (freeze hh (.tup [(.int .i64 2), (.int .i64 0)])) ((opLoad hh (some 6) y4).bind fun v28 => (opLoad hh (some 6) y5).bind fun v29 => (opLoad hh (some 6) y6).bind fun v30 => (byVal (callW gp) hh fid.zf26 [v28, v29, v30]).bind fun v31 => (opLoad hh (some 6) y4).bind fun v32 => (opLoad hh (some 6) y5).bind fun v33 => (opLoad hh (some 6) y7).bind fun v34 => (byVal (callW gp) hh fid.zf26 [v32, v33, v34]).bind fun v35 => (opBin .mul v31 v35).bind fun v36 => (opBin .lss v36 (.int .i64 0)).bind fun v37 => guardK v37 true ((opLoad hh (some 6) y6).bind fun v38 => (opLoad hh (some 6) y7).bind fun v39 => (opLoad hh (some 6) y4).bind fun v40 => (byVal (callW gp) hh fid.zf26 [v38, v39, v40]).bind fun v41 => (opLoad hh (some 6) y6).bind fun v42 => (opLoad hh (some 6) y7).bind fun v43 => (opLoad hh (some 6) y5).bind fun v44 => (byVal (callW gp) hh fid.zf26 [v42, v43, v44]).bind fun v45 => (opBin .mul v41 v45).bind fun v46 => (opBin .lss v46 (.int .i64 0)).bind fun v47 => condK v47 (freeze hh (.tup [(.int .i64 1), (.int .i64 0)])) (freeze hh (.tup [(.int .i64 0), (.int .i64 0)]))) (freeze hh (.tup [(.int .i64 0), (.int .i64 0)])))
noncomputable def zf1o.f (a0 : AV) (a1 : AV) (a2 : AV) (a3 : AV) : Option AV :=
  (opBox [] a0).bind fun r1 => (opBox r1.2 a1).bind fun r2 => (opBox r2.2 a2).bind fun r3 => (opBox r3.2 a3).bind fun r4 => (opLoad r4.2 (some 6) r1.1).bind fun v5 => (opLoad r4.2 (some 6) r2.1).bind fun v6 => (opLoad r4.2 (some 6) r3.1).bind fun v7 => (opLoad r4.2 (some 6) r4.1).bind fun v8 => (opBslc 6 4 [.bool false, .str ⟨#[]⟩, .str ⟨#[]⟩, .bool false, .str ⟨#[]⟩, .str ⟨#[]⟩] [(0, v5), (1, v6), (2, v7), (3, v8)]).bind fun v9 => (byVal (callW gp) r4.2 fid.zf25 [v9]).bind fun v10 => (opBin .neq v10 (.int .i64 0)).bind fun v11 => condK v11 (freeze r4.2 (.tup [(.int .i64 0), v10])) ((opLoad r4.2 (some 6) r1.1).bind fun v12 => (opLoad r4.2 (some 6) r2.1).bind fun v13 => (opLoad r4.2 (some 6) r3.1).bind fun v14 => (byVal (callW gp) r4.2 fid.geom_on [v12, v13, v14]).bind fun v15 => condK v15 (zf1o.j0 r1.1 r2.1 r3.1 r4.1 v15 r4.2) ((opLoad r4.2 (some 6) r1.1).bind fun v16 => (opLoad r4.2 (some 6) r2.1).bind fun v17 => (opLoad r4.2 (some 6) r4.1).bind fun v18 => (byVal (callW gp) r4.2 fid.geom_on [v16, v17, v18]).bind fun v19 => condK v19 (zf1o.j0 r1.1 r2.1 r3.1 r4.1 v19 r4.2) ((opLoad r4.2 (some 6) r3.1).bind fun v20 => (opLoad r4.2 (some 6) r4.1).bind fun v21 => (opLoad r4.2 (some 6) r1.1).bind fun v22 => (byVal (callW gp) r4.2 fid.geom_on [v20, v21, v22]).bind fun v23 => condK v23 (zf1o.j0 r1.1 r2.1 r3.1 r4.1 v23 r4.2) ((opLoad r4.2 (some 6) r3.1).bind fun v24 => (opLoad r4.2 (some 6) r4.1).bind fun v25 => (opLoad r4.2 (some 6) r2.1).bind fun v26 => (byVal (callW gp) r4.2 fid.geom_on [v24, v25, v26]).bind fun v27 => zf1o.j0 r1.1 r2.1 r3.1 r4.1 v27 r4.2))))
theorem zf1o.eq (a0 : AV) (a1 : AV) (a2 : AV) (a3 : AV) : cv gp fid.zf1o [a0, a1, a2, a3] = zf1o.f a0 a1 a2 a3 :=
  (cv_eq gp fid.zf1o [a0, a1, a2, a3] zf1o.fn_eq).trans (by kernel_rfl)

noncomputable def zf25.fn : AFun := (gp.fn fid.zf25).getD default
theorem zf25.fn_eq : gp.fn fid.zf25 = some zf25.fn := by kernel_rfl
noncomputable def zf25.l1 (y4 : AV) (y8 : AV) (y9 : AV) (y10 : AV) (y18 : AV) (y19 : AV) (y20 : AV) (hh : Heap) : Option AV := loopAt gp zf25.fn [true, false, true, false, false, true, true, false, false, true, false, true, false] (fun v h => freeze h v) ⟨frame 42 [(4, y4), (8, y8), (9, y9), (10, y10), (18, y18), (19, y19), (20, y20)], hh⟩
noncomputable def zf25.l0 (y8 : AV) (y9 : AV) (y10 : AV) (hh : Heap) : Option AV := loopAt gp zf25.fn [true, false, true, false] (fun v h => freeze h v) ⟨frame 42 [(8, y8), (9, y9), (10, y10)], hh⟩
noncomputable def zf25.f (a0 : AV) : Option AV :=
  (opLen false a0).bind fun v1 => zf25.l0 a0 v1 (.int .i64 0) []
theorem zf25.l1_eq (y4 : AV) (y8 : AV) (y9 : AV) (y10 : AV) (y18 : AV) (y19 : AV) (y20 : AV) (hh : Heap) : zf25.l1 y4 y8 y9 y10 y18 y19 y20 hh =
    ((opBin .lss y20 y19).bind fun v12 => condK v12 ((opSidx 3 y18 y20).bind fun v13 => (opLoad hh (some 3) v13).bind fun v14 => (opStore (@HAppend.hAppend Heap Heap Heap _ hh [some [.bool false, .str ⟨#[]⟩, .str ⟨#[]⟩]]) 3 (.rp (List.length (hh : Heap)) 0) v14).bind fun h15 => (opFaddr 0 (.rp (List.length (hh : Heap)) 0)).bind fun v16 => (opFaddr 1 v16).bind fun v17 => (opLoad h15 none v17).bind fun v18 => (opLen true v18).bind fun v19 => (opBin .gtr v19 (.int .i64 100)).bind fun v20 => guardK v20 false ((opFaddr 2 (.rp (List.length (hh : Heap)) 0)).bind fun v21 => (opLoad h15 none v21).bind fun v22 => (opLen true v22).bind fun v23 => (opBin .gtr v23 (.int .i64 100)).bind fun v24 => condK v24 (freeze h15 (.int .i64 5)) ((opBin .add y20 (.int .i64 1)).bind fun v25 => zf25.l1 y4 y8 y9 y10 y18 y19 v25 h15)) (freeze h15 (.int .i64 5))) ((opLoad hh (some 6) y4).bind fun v26 => (byVal (callW gp) hh fid.zf2o [v26]).bind fun v27 => (opBin .neq v27 (.int .i64 0)).bind fun v28 => condK v28 (freeze hh v27) ((opBin .add y10 (.int .i64 1)).bind fun v29 => zf25.l0 y8 y9 v29 hh))) :=
  (loopAt_eq gp zf25.fn [true, false, true, false, false, true, true, false, false, true, false, true, false] (fun v h => freeze h v) ⟨frame 42 [(4, y4), (8, y8), (9, y9), (10, y10), (18, y18), (19, y19), (20, y20)], hh⟩).trans (by kernel_rfl)
theorem zf25.l0_eq (y8 : AV) (y9 : AV) (y10 : AV) (hh : Heap) : zf25.l0 y8 y9 y10 hh =
    ((opBin .lss y10 y9).bind fun v2 => condK v2 ((opSidx 6 y8 y10).bind fun v3 => (opLoad hh (some 6) v3).bind fun v4 => (opStore (@HAppend.hAppend Heap Heap Heap _ hh [some [.bool false, .str ⟨#[]⟩, .str ⟨#[]⟩, .bool false, .str ⟨#[]⟩, .str ⟨#[]⟩]]) 6 (.rp (List.length (hh : Heap)) 0) v4).bind fun h5 => (opFaddr 0 (.rp (List.length (hh : Heap)) 0)).bind fun v6 => (opLoad h5 (some 3) v6).bind fun v7 => (opFaddr 3 (.rp (List.length (hh : Heap)) 0)).bind fun v8 => (opLoad h5 (some 3) v8).bind fun v9 => (opBslc 3 2 [.bool false, .str ⟨#[]⟩, .str ⟨#[]⟩] [(0, v7), (1, v9)]).bind fun v10 => (opLen false v10).bind fun v11 => zf25.l1 (.rp (List.length (hh : Heap)) 0) y8 y9 y10 v10 v11 (.int .i64 0) h5) (freeze hh (.int .i64 0))) :=
  (loopAt_eq gp zf25.fn [true, false, true, false] (fun v h => freeze h v) ⟨frame 42 [(8, y8), (9, y9), (10, y10)], hh⟩).trans (by kernel_rfl)
theorem zf25.eq (a0 : AV) : cv gp fid.zf25 [a0] = zf25.f a0 :=
  (cv_eq gp fid.zf25 [a0] zf25.fn_eq).trans (by kernel_rfl)

noncomputable def zf26.fn : AFun := (gp.fn fid.zf26).getD default
theorem zf26.fn_eq : gp.fn fid.zf26 = some zf26.fn := by kernel_rfl
noncomputable def zf26.f (a0 : AV) (a1 : AV) (a2 : AV) : Option AV :=
  (opBox [] a0).bind fun r1 => (opBox r1.2 a1).bind fun r2 => (opBox r2.2 a2).bind fun r3 => (opLoad r3.2 (some 6) r2.1).bind fun v4 => (opLoad r3.2 (some 6) r1.1).bind fun v5 => (byVal (callW gp) r3.2 fid.zf2r [v4, v5]).bind fun v6 => (opLoad r3.2 (some 6) r3.1).bind fun v7 => (opLoad r3.2 (some 6) r1.1).bind fun v8 => (byVal (callW gp) r3.2 fid.zf2r [v7, v8]).bind fun v9 => (byVal (callW gp) r3.2 fid.zf2q [v6, v9]).bind fun v10 => (byVal (callW gp) r3.2 fid.zf2p [v10]).bind fun v11 => freeze r3.2 v11
theorem zf26.eq (a0 : AV) (a1 : AV) (a2 : AV) : cv gp fid.zf26 [a0, a1, a2] = zf26.f a0 a1 a2 :=
  (cv_eq gp fid.zf26 [a0, a1, a2] zf26.fn_eq).trans (by kernel_rfl)

noncomputable def geom_on.fn : AFun := (gp.fn fid.geom_on).getD default
theorem geom_on.fn_eq : gp.fn fid.geom_on = some geom_on.fn := by kernel_rfl
noncomputable def geom_on.f (a0 : AV) (a1 : AV) (a2 : AV) : Option AV :=
  (opBox [] a0).bind fun r1 => (opBox r1.2 a1).bind fun r2 => (opBox r2.2 a2).bind fun r3 => (opLoad r3.2 (some 6) r1.1).bind fun v4 => (opLoad r3.2 (some 6) r2.1).bind fun v5 => (opLoad r3.2 (some 6) r3.1).bind fun v6 => (byVal (callW gp) r3.2 fid.zf26 [v4, v5, v6]).bind fun v7 => (opBin .eql v7 (.int .i64 0)).bind fun v8 => guardK v8 true ((opLoad r3.2 (some 6) r1.1).bind fun v9 => (opLoad r3.2 (some 6) r2.1).bind fun v10 => (opLoad r3.2 (some 6) r3.1).bind fun v11 => (byVal (callW gp) r3.2 fid.zf2z [v9, v10, v11]).bind fun v12 => (opBin .geq v12 (.int .i64 0)).bind fun v13 => freeze r3.2 v13) (freeze r3.2 (.bool false))
theorem geom_on.eq (a0 : AV) (a1 : AV) (a2 : AV) : cv gp fid.geom_on [a0, a1, a2] = geom_on.f a0 a1 a2 :=
  (cv_eq gp fid.geom_on [a0, a1, a2] geom_on.fn_eq).trans (by kernel_rfl)

noncomputable def zf2p.fn : AFun := (gp.fn fid.zf2p).getD default
theorem zf2p.fn_eq : gp.fn fid.zf2p = some zf2p.fn := by kernel_rfl
noncomputable def zf2p.f (a0 : AV) : Option AV :=
  (opBox [] a0).bind fun r1 => (opLoad r1.2 (some 3) r1.1).bind fun v2 => (byVal (callW gp) r1.2 fid.zf31 [v2]).bind fun v3 => (opExt 0 v3).bind fun v4 => (opExt 1 v3).bind fun v5 => freeze r1.2 v4
theorem zf2p.eq (a0 : AV) : cv gp fid.zf2p [a0] = zf2p.f a0 :=
  (cv_eq gp fid.zf2p [a0] zf2p.fn_eq).trans (by kernel_rfl)

noncomputable def zf2q.fn : AFun := (gp.fn fid.zf2q).getD default
theorem zf2q.fn_eq : gp.fn fid.zf2q = some zf2q.fn := by kernel_rfl
noncomputable def zf2q.f (a0 : AV) (a1 : AV) : Option AV :=
  (opBox [] a0).bind fun r1 => (opBox r1.2 a1).bind fun r2 => (opLoad (@HAppend.hAppend Heap Heap Heap _ r2.2 [some [.bool false, .str ⟨#[]⟩, .str ⟨#[]⟩]]) (some 6) r1.1).bind fun v3 => (opLoad (@HAppend.hAppend Heap Heap Heap _ r2.2 [some [.bool false, .str ⟨#[]⟩, .str ⟨#[]⟩]]) (some 6) r2.1).bind fun v4 => (byVal (callW gp) (@HAppend.hAppend Heap Heap Heap _ r2.2 [some [.bool false, .str ⟨#[]⟩, .str ⟨#[]⟩]]) fid.zf39 [v3, v4]).bind fun v5 => (opExt 0 v5).bind fun v6 => (opExt 1 v5).bind fun v7 => (opStore (@HAppend.hAppend Heap Heap Heap _ (@HAppend.hAppend Heap Heap Heap _ r2.2 [some [.bool false, .str ⟨#[]⟩, .str ⟨#[]⟩]]) [some [.bool false, .str ⟨#[]⟩, .str ⟨#[]⟩]]) 3 (.rp (List.length ((@HAppend.hAppend Heap Heap Heap _ r2.2 [some [.bool false, .str ⟨#[]⟩, .str ⟨#[]⟩]]) : Heap)) 0) v6).bind fun h8 => (opLoad h8 (some 3) (.rp (List.length ((@HAppend.hAppend Heap Heap Heap _ r2.2 [some [.bool false, .str ⟨#[]⟩, .str ⟨#[]⟩]]) : Heap)) 0)).bind fun v9 => (opStore h8 3 (.rp (List.length (r2.2 : Heap)) 0) v9).bind fun h10 => (opLoad h10 (some 3) (.rp (List.length (r2.2 : Heap)) 0)).bind fun v11 => freeze h10 v11
theorem zf2q.eq (a0 : AV) (a1 : AV) : cv gp fid.zf2q [a0, a1] = zf2q.f a0 a1 :=
  (cv_eq gp fid.zf2q [a0, a1] zf2q.fn_eq).trans (by kernel_rfl)

noncomputable def zf2r.fn : AFun := (gp.fn fid.zf2r).getD default
theorem zf2r.fn_eq : gp.fn fid.zf2r = some zf2r.fn := by kernel_rfl
noncomputable def zf2r.f (a0 : AV) (a1 : AV) : Option AV :=
  (opBox [] a0).bind fun r1 => (opBox r1.2 a1).bind fun r2 => (opLoad (@HAppend.hAppend Heap Heap Heap _ r2.2 [some [.bool false, .str ⟨#[]⟩, .str ⟨#[]⟩, .bool false, .str ⟨#[]⟩, .str ⟨#[]⟩]]) (some 6) r1.1).bind fun v3 => (opLoad (@HAppend.hAppend Heap Heap Heap _ r2.2 [some [.bool false, .str ⟨#[]⟩, .str ⟨#[]⟩, .bool false, .str ⟨#[]⟩, .str ⟨#[]⟩]]) (some 6) r2.1).bind fun v4 => (byVal (callW gp) (@HAppend.hAppend Heap Heap Heap _ r2.2 [some [.bool false, .str ⟨#[]⟩, .str ⟨#[]⟩, .bool false, .str ⟨#[]⟩, .str ⟨#[]⟩]]) fid.zf3a [v3, v4]).bind fun v5 => (opExt 0 v5).bind fun v6 => (opExt 1 v5).bind fun v7 => (opStore (@HAppend.hAppend Heap Heap Heap _ (@HAppend.hAppend Heap Heap Heap _ r2.2 [some [.bool false, .str ⟨#[]⟩, .str ⟨#[]⟩, .bool false, .str ⟨#[]⟩, .str ⟨#[]⟩]]) [some [.bool false, .str ⟨#[]⟩, .str ⟨#[]⟩, .bool false, .str ⟨#[]⟩, .str ⟨#[]⟩]]) 6 (.rp (List.length ((@HAppend.hAppend Heap Heap Heap _ r2.2 [some [.bool false, .str ⟨#[]⟩, .str ⟨#[]⟩, .bool false, .str ⟨#[]⟩, .str ⟨#[]⟩]]) : Heap)) 0) v6).bind fun h8 => (opLoad h8 (some 6) (.rp (List.length ((@HAppend.hAppend Heap Heap Heap _ r2.2 [some [.bool false, .str ⟨#[]⟩, .str ⟨#[]⟩, .bool false, .str ⟨#[]⟩, .str ⟨#[]⟩]]) : Heap)) 0)).bind fun v9 => (opStore h8 6 (.rp (List.length (r2.2 : Heap)) 0) v9).bind fun h10 => (opLoad h10 (some 6) (.rp (List.length (r2.2 : Heap)) 0)).bind fun v11 => freeze h10 v11
theorem zf2r.eq (a0 : AV) (a1 : AV) : cv gp fid.zf2r [a0, a1] = zf2r.f a0 a1 :=
  (cv_eq gp fid.zf2r [a0, a1] zf2r.fn_eq).trans (by kernel_rfl)

noncomputable def zf2z.fn : AFun := (gp.fn fid.zf2z).getD default
theorem zf2z.fn_eq : gp.fn fid.zf2z = some zf2z.fn := by kernel_rfl
noncomputable def zf2z.f (a0 : AV) (a1 : AV) (a2 : AV) : Option AV :=
  (opBox [] a0).bind fun r1 => (opBox r1.2 a1).bind fun r2 => (opBox r2.2 a2).bind fun r3 => (opLoad r3.2 (some 6) r1.1).bind fun v4 => (opLoad r3.2 (some 6) r3.1).bind fun v5 => (byVal (callW gp) r3.2 fid.zf2r [v4, v5]).bind fun v6 => (opLoad r3.2 (some 6) r2.1).bind fun v7 => (opLoad r3.2 (some 6) r3.1).bind fun v8 => (byVal (callW gp) r3.2 fid.zf2r [v7, v8]).bind fun v9 => (byVal (callW gp) r3.2 fid.zf3k [v6, v9]).bind fun v10 => (opExt 0 v10).bind fun v11 => (opExt 1 v10).bind fun v12 => (opStore (@HAppend.hAppend Heap Heap Heap _ r3.2 [some [.bool false, .str ⟨#[]⟩, .str ⟨#[]⟩]]) 3 (.rp (List.length (r3.2 : Heap)) 0) v11).bind fun h13 => (opLoad h13 (some 3) (.rp (List.length (r3.2 : Heap)) 0)).bind fun v14 => (byVal (callW gp) h13 fid.zf2p [v14]).bind fun v15 => (opUn .neg v15).bind fun v16 => freeze h13 v16
theorem zf2z.eq (a0 : AV) (a1 : AV) (a2 : AV) : cv gp fid.zf2z [a0, a1, a2] = zf2z.f a0 a1 a2 :=
  (cv_eq gp fid.zf2z [a0, a1, a2] zf2z.fn_eq).trans (by kernel_rfl)

end Go.Proofs.YtiblnpnfaadmcaaGreat.Am
