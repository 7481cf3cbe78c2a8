import Derived.Test.YtiblnpnfaadmcaaGreatAmGp
set_option linter.unusedVariables false
set_option maxRecDepth 10000
set_option maxHeartbeats 0
namespace Go.Proofs.YtiblnpnfaadmcaaGreat.Am
open Go
/-! gusset gussetref05.Asked -/
noncomputable def zf0c.fn : AFun := (gp.fn fid.zf0c).getD default
theorem zf0c.fn_eq : gp.fn fid.zf0c = some zf0c.fn := by kernel_rfl
noncomputable def zf0c.l0 (y0 : AV) (y3 : AV) : Option AV := zyao gp zf0c.fn [true, false, true, false] (fun v h => zy5v h v) ⟨frame 33 [(0, y0), (3, y3)], []⟩
noncomputable def zf0c.f (a0 : AV) : Option AV :=
 zf0c.l0 a0 (.int .i64 0)
theorem zf0c.l0_eq (y0 : AV) (y3 : AV) : zf0c.l0 y0 y3 =
  ((opLen false y0).bind fun v1 => (opBin .lss y3 v1).bind fun v2 => condK v2 ((zydh 6 y0 y3).bind fun v3 => (zyd1 0 v3).bind fun v4 => (zyd4 [] (some 3) v4).bind fun v5 => (byVal (callW gp) [] fid.zf0z [v5]).bind fun v6 => zy6i v6 false ((zydh 6 y0 y3).bind fun v7 => (zyd1 3 v7).bind fun v8 => (zyd4 [] (some 3) v8).bind fun v9 => (byVal (callW gp) [] fid.zf0z [v9]).bind fun v10 => condK v10 (zy5v [] (.int .i64 5)) ((zydh 6 y0 y3).bind fun v11 => (zyd4 [] (some 6) v11).bind fun v12 => (byVal (callW gp) [] fid.zf10 [v12]).bind fun v13 => (opBin .neq v13 (.int .i64 0)).bind fun v14 => condK v14 (zy5v [] v13) ((opBin .add y3 (.int .i64 1)).bind fun v15 => zf0c.l0 y0 v15))) (zy5v [] (.int .i64 5))) (zy5v [] (.int .i64 0))) :=
 (zyar gp zf0c.fn [true, false, true, false] (fun v h => zy5v h v) ⟨frame 33 [(0, y0), (3, y3)], []⟩).trans (by kernel_rfl)
theorem zf0c.eq (a0 : AV) : cv gp fid.zf0c [a0] = zf0c.f a0 :=
 (cv_eq gp fid.zf0c [a0] zf0c.fn_eq).trans (by kernel_rfl)

noncomputable def zf0g.fn : AFun := (gp.fn fid.zf0g).getD default
theorem zf0g.fn_eq : gp.fn fid.zf0g = some zf0g.fn := by kernel_rfl
noncomputable def zf0g.f (a0 : AV) (a1 : AV) (a2 : AV) (a3 : AV) : Option AV :=
 (opBox [] a0).bind fun r1 => (opBox r1.2 a1).bind fun r2 => (opBox r2.2 a2).bind fun r3 => (opBox r3.2 a3).bind fun r4 => (zyd4 r4.2 (some 6) r1.1).bind fun v5 => (zyd4 r4.2 (some 6) r2.1).bind fun v6 => (zyd4 r4.2 (some 6) r3.1).bind fun v7 => (byVal (callW gp) r4.2 fid.gussetref05_On [v5, v6, v7]).bind fun v8 => zy6i v8 false ((zyd4 r4.2 (some 6) r1.1).bind fun v9 => (zyd4 r4.2 (some 6) r2.1).bind fun v10 => (zyd4 r4.2 (some 6) r4.1).bind fun v11 => (byVal (callW gp) r4.2 fid.gussetref05_On [v9, v10, v11]).bind fun v12 => zy6i v12 false ((zyd4 r4.2 (some 6) r3.1).bind fun v13 => (zyd4 r4.2 (some 6) r4.1).bind fun v14 => (zyd4 r4.2 (some 6) r1.1).bind fun v15 => (byVal (callW gp) r4.2 fid.gussetref05_On [v13, v14, v15]).bind fun v16 => zy6i v16 false ((zyd4 r4.2 (some 6) r3.1).bind fun v17 => (zyd4 r4.2 (some 6) r4.1).bind fun v18 => (zyd4 r4.2 (some 6) r2.1).bind fun v19 => (byVal (callW gp) r4.2 fid.gussetref05_On [v17, v18, v19]).bind fun v20 => condK v20 (zy5v r4.2 (.int .i64 2)) ((zyd4 r4.2 (some 6) r1.1).bind fun v21 => (zyd4 r4.2 (some 6) r2.1).bind fun v22 => (zyd4 r4.2 (some 6) r3.1).bind fun v23 => (byVal (callW gp) r4.2 fid.zf16 [v21, v22, v23]).bind fun v24 => (zyd4 r4.2 (some 6) r1.1).bind fun v25 => (zyd4 r4.2 (some 6) r2.1).bind fun v26 => (zyd4 r4.2 (some 6) r4.1).bind fun v27 => (byVal (callW gp) r4.2 fid.zf16 [v25, v26, v27]).bind fun v28 => (opBin .mul v24 v28).bind fun v29 => (opBin .lss v29 (.int .i64 0)).bind fun v30 => zy6i v30 true ((zyd4 r4.2 (some 6) r3.1).bind fun v31 => (zyd4 r4.2 (some 6) r4.1).bind fun v32 => (zyd4 r4.2 (some 6) r1.1).bind fun v33 => (byVal (callW gp) r4.2 fid.zf16 [v31, v32, v33]).bind fun v34 => (zyd4 r4.2 (some 6) r3.1).bind fun v35 => (zyd4 r4.2 (some 6) r4.1).bind fun v36 => (zyd4 r4.2 (some 6) r2.1).bind fun v37 => (byVal (callW gp) r4.2 fid.zf16 [v35, v36, v37]).bind fun v38 => (opBin .mul v34 v38).bind fun v39 => (opBin .lss v39 (.int .i64 0)).bind fun v40 => condK v40 (zy5v r4.2 (.int .i64 1)) (zy5v r4.2 (.int .i64 0))) (zy5v r4.2 (.int .i64 0)))) (zy5v r4.2 (.int .i64 2))) (zy5v r4.2 (.int .i64 2))) (zy5v r4.2 (.int .i64 2))
theorem zf0g.eq (a0 : AV) (a1 : AV) (a2 : AV) (a3 : AV) : cv gp fid.zf0g [a0, a1, a2, a3] = zf0g.f a0 a1 a2 a3 :=
 (cv_eq gp fid.zf0g [a0, a1, a2, a3] zf0g.fn_eq).trans (by kernel_rfl)

noncomputable def zf0z.fn : AFun := (gp.fn fid.zf0z).getD default
theorem zf0z.fn_eq : gp.fn fid.zf0z = some zf0z.fn := by kernel_rfl
noncomputable def zf0z.f (a0 : AV) : Option AV :=
 (opBox [] a0).bind fun r1 => (zyd1 0 r1.1).bind fun v2 => (zyd1 1 v2).bind fun v3 => (zyd4 r1.2 none v3).bind fun v4 => (opLen true v4).bind fun v5 => (opBin .gtr v5 (.int .i64 100)).bind fun v6 => zy6i v6 false ((zyd1 2 r1.1).bind fun v7 => (zyd4 r1.2 none v7).bind fun v8 => (opLen true v8).bind fun v9 => (opBin .gtr v9 (.int .i64 100)).bind fun v10 => zy5v r1.2 v10) (zy5v r1.2 (.bool true))
theorem zf0z.eq (a0 : AV) : cv gp fid.zf0z [a0] = zf0z.f a0 :=
 (cv_eq gp fid.zf0z [a0] zf0z.fn_eq).trans (by kernel_rfl)

noncomputable def gussetref05_On.fn : AFun := (gp.fn fid.gussetref05_On).getD default
theorem gussetref05_On.fn_eq : gp.fn fid.gussetref05_On = some gussetref05_On.fn := by kernel_rfl
noncomputable def gussetref05_On.f (a0 : AV) (a1 : AV) (a2 : AV) : Option AV :=
 (opBox [] a0).bind fun r1 => (opBox r1.2 a1).bind fun r2 => (opBox r2.2 a2).bind fun r3 => (zyd4 r3.2 (some 6) r1.1).bind fun v4 => (zyd4 r3.2 (some 6) r2.1).bind fun v5 => (zyd4 r3.2 (some 6) r3.1).bind fun v6 => (byVal (callW gp) r3.2 fid.zf16 [v4, v5, v6]).bind fun v7 => (opBin .eql v7 (.int .i64 0)).bind fun v8 => zy6i v8 true ((zyd4 r3.2 (some 6) r1.1).bind fun v9 => (zyd4 r3.2 (some 6) r2.1).bind fun v10 => (zyd4 r3.2 (some 6) r3.1).bind fun v11 => (byVal (callW gp) r3.2 fid.zf1r [v9, v10, v11]).bind fun v12 => (opBin .geq v12 (.int .i64 0)).bind fun v13 => zy5v r3.2 v13) (zy5v r3.2 (.bool false))
theorem gussetref05_On.eq (a0 : AV) (a1 : AV) (a2 : AV) : cv gp fid.gussetref05_On [a0, a1, a2] = gussetref05_On.f a0 a1 a2 :=
 (cv_eq gp fid.gussetref05_On [a0, a1, a2] gussetref05_On.fn_eq).trans (by kernel_rfl)

noncomputable def zf16.fn : AFun := (gp.fn fid.zf16).getD default
theorem zf16.fn_eq : gp.fn fid.zf16 = some zf16.fn := by kernel_rfl
noncomputable def zf16.f (a0 : AV) (a1 : AV) (a2 : AV) : Option AV :=
 (opBox [] a0).bind fun r1 => (opBox r1.2 a1).bind fun r2 => (opBox r2.2 a2).bind fun r3 => (zyd4 r3.2 (some 6) r2.1).bind fun v4 => (zyd4 r3.2 (some 6) r1.1).bind fun v5 => (byVal (callW gp) r3.2 fid.zf1d [v4, v5]).bind fun v6 => (zyd4 r3.2 (some 6) r3.1).bind fun v7 => (zyd4 r3.2 (some 6) r1.1).bind fun v8 => (byVal (callW gp) r3.2 fid.zf1d [v7, v8]).bind fun v9 => (byVal (callW gp) r3.2 fid.zf1s [v6, v9]).bind fun v10 => (byVal (callW gp) r3.2 fid.zf0i [v10]).bind fun v11 => zy5v r3.2 v11
theorem zf16.eq (a0 : AV) (a1 : AV) (a2 : AV) : cv gp fid.zf16 [a0, a1, a2] = zf16.f a0 a1 a2 :=
 (cv_eq gp fid.zf16 [a0, a1, a2] zf16.fn_eq).trans (by kernel_rfl)

noncomputable def zf1h.fn : AFun := (gp.fn fid.zf1h).getD default
theorem zf1h.fn_eq : gp.fn fid.zf1h = some zf1h.fn := by kernel_rfl
noncomputable def zf1h.f (a0 : AV) (a1 : AV) (a2 : AV) : Option AV :=
 (opBox [] a0).bind fun r1 => (opBox r1.2 a1).bind fun r2 => (opBox r2.2 a2).bind fun r3 => (zyd4 r3.2 (some 6) r1.1).bind fun v4 => (zyd4 r3.2 (some 6) r2.1).bind fun v5 => (zyd4 r3.2 (some 6) r3.1).bind fun v6 => (zycy 6 3 [.bool false, .str ⟨#[]⟩, .str ⟨#[]⟩, .bool false, .str ⟨#[]⟩, .str ⟨#[]⟩] [(0, v4), (1, v5), (2, v6)]).bind fun v7 => (byVal (callW gp) r3.2 fid.zf25 [v7]).bind fun v8 => (opBin .neq v8 (.int .i64 0)).bind fun v9 => condK v9 (zy5v r3.2 (.tup [(.int .i64 0), v8])) ((zyd4 r3.2 (some 6) r1.1).bind fun v10 => (zyd4 r3.2 (some 6) r2.1).bind fun v11 => (zyd4 r3.2 (some 6) r3.1).bind fun v12 => (byVal (callW gp) r3.2 fid.zf26 [v10, v11, v12]).bind fun v13 => zy5v r3.2 (.tup [v13, (.int .i64 0)]))
theorem zf1h.eq (a0 : AV) (a1 : AV) (a2 : AV) : cv gp fid.zf1h [a0, a1, a2] = zf1h.f a0 a1 a2 :=
 (cv_eq gp fid.zf1h [a0, a1, a2] zf1h.fn_eq).trans (by kernel_rfl)

noncomputable def zf1o.fn : AFun := (gp.fn fid.zf1o).getD default
theorem zf1o.fn_eq : gp.fn fid.zf1o = some zf1o.fn := by kernel_rfl
noncomputable def zf1o.j0 (y4 : AV) (y5 : AV) (y6 : AV) (y7 : AV) (y20 : AV) (hh : Heap) : Option AV :=
 condK y20 (zy5v hh (.tup [(.int .i64 2), (.int .i64 0)])) ((zyd4 hh (some 6) y4).bind fun v28 => (zyd4 hh (some 6) y5).bind fun v29 => (zyd4 hh (some 6) y6).bind fun v30 => (byVal (callW gp) hh fid.zf26 [v28, v29, v30]).bind fun v31 => (zyd4 hh (some 6) y4).bind fun v32 => (zyd4 hh (some 6) y5).bind fun v33 => (zyd4 hh (some 6) y7).bind fun v34 => (byVal (callW gp) hh fid.zf26 [v32, v33, v34]).bind fun v35 => (opBin .mul v31 v35).bind fun v36 => (opBin .lss v36 (.int .i64 0)).bind fun v37 => zy6i v37 true ((zyd4 hh (some 6) y6).bind fun v38 => (zyd4 hh (some 6) y7).bind fun v39 => (zyd4 hh (some 6) y4).bind fun v40 => (byVal (callW gp) hh fid.zf26 [v38, v39, v40]).bind fun v41 => (zyd4 hh (some 6) y6).bind fun v42 => (zyd4 hh (some 6) y7).bind fun v43 => (zyd4 hh (some 6) y5).bind fun v44 => (byVal (callW gp) hh fid.zf26 [v42, v43, v44]).bind fun v45 => (opBin .mul v41 v45).bind fun v46 => (opBin .lss v46 (.int .i64 0)).bind fun v47 => condK v47 (zy5v hh (.tup [(.int .i64 1), (.int .i64 0)])) (zy5v hh (.tup [(.int .i64 0), (.int .i64 0)]))) (zy5v hh (.tup [(.int .i64 0), (.int .i64 0)])))
noncomputable def zf1o.f (a0 : AV) (a1 : AV) (a2 : AV) (a3 : AV) : Option AV :=
 (opBox [] a0).bind fun r1 => (opBox r1.2 a1).bind fun r2 => (opBox r2.2 a2).bind fun r3 => (opBox r3.2 a3).bind fun r4 => (zyd4 r4.2 (some 6) r1.1).bind fun v5 => (zyd4 r4.2 (some 6) r2.1).bind fun v6 => (zyd4 r4.2 (some 6) r3.1).bind fun v7 => (zyd4 r4.2 (some 6) r4.1).bind fun v8 => (zycy 6 4 [.bool false, .str ⟨#[]⟩, .str ⟨#[]⟩, .bool false, .str ⟨#[]⟩, .str ⟨#[]⟩] [(0, v5), (1, v6), (2, v7), (3, v8)]).bind fun v9 => (byVal (callW gp) r4.2 fid.zf25 [v9]).bind fun v10 => (opBin .neq v10 (.int .i64 0)).bind fun v11 => condK v11 (zy5v r4.2 (.tup [(.int .i64 0), v10])) ((zyd4 r4.2 (some 6) r1.1).bind fun v12 => (zyd4 r4.2 (some 6) r2.1).bind fun v13 => (zyd4 r4.2 (some 6) r3.1).bind fun v14 => (byVal (callW gp) r4.2 fid.geom_on [v12, v13, v14]).bind fun v15 => condK v15 (zf1o.j0 r1.1 r2.1 r3.1 r4.1 v15 r4.2) ((zyd4 r4.2 (some 6) r1.1).bind fun v16 => (zyd4 r4.2 (some 6) r2.1).bind fun v17 => (zyd4 r4.2 (some 6) r4.1).bind fun v18 => (byVal (callW gp) r4.2 fid.geom_on [v16, v17, v18]).bind fun v19 => condK v19 (zf1o.j0 r1.1 r2.1 r3.1 r4.1 v19 r4.2) ((zyd4 r4.2 (some 6) r3.1).bind fun v20 => (zyd4 r4.2 (some 6) r4.1).bind fun v21 => (zyd4 r4.2 (some 6) r1.1).bind fun v22 => (byVal (callW gp) r4.2 fid.geom_on [v20, v21, v22]).bind fun v23 => condK v23 (zf1o.j0 r1.1 r2.1 r3.1 r4.1 v23 r4.2) ((zyd4 r4.2 (some 6) r3.1).bind fun v24 => (zyd4 r4.2 (some 6) r4.1).bind fun v25 => (zyd4 r4.2 (some 6) r2.1).bind fun v26 => (byVal (callW gp) r4.2 fid.geom_on [v24, v25, v26]).bind fun v27 => zf1o.j0 r1.1 r2.1 r3.1 r4.1 v27 r4.2))))
theorem zf1o.eq (a0 : AV) (a1 : AV) (a2 : AV) (a3 : AV) : cv gp fid.zf1o [a0, a1, a2, a3] = zf1o.f a0 a1 a2 a3 :=
 (cv_eq gp fid.zf1o [a0, a1, a2, a3] zf1o.fn_eq).trans (by kernel_rfl)

noncomputable def zf1r.fn : AFun := (gp.fn fid.zf1r).getD default
theorem zf1r.fn_eq : gp.fn fid.zf1r = some zf1r.fn := by kernel_rfl
noncomputable def zf1r.f (a0 : AV) (a1 : AV) (a2 : AV) : Option AV :=
 (opBox [] a0).bind fun r1 => (opBox r1.2 a1).bind fun r2 => (opBox r2.2 a2).bind fun r3 => (zyd4 r3.2 (some 6) r1.1).bind fun v4 => (zyd4 r3.2 (some 6) r3.1).bind fun v5 => (byVal (callW gp) r3.2 fid.zf1d [v4, v5]).bind fun v6 => (zyd4 r3.2 (some 6) r2.1).bind fun v7 => (zyd4 r3.2 (some 6) r3.1).bind fun v8 => (byVal (callW gp) r3.2 fid.zf1d [v7, v8]).bind fun v9 => (byVal (callW gp) r3.2 fid.zf1u [v6, v9]).bind fun v10 => (byVal (callW gp) r3.2 fid.zf0i [v10]).bind fun v11 => (opUn .neg v11).bind fun v12 => zy5v r3.2 v12
theorem zf1r.eq (a0 : AV) (a1 : AV) (a2 : AV) : cv gp fid.zf1r [a0, a1, a2] = zf1r.f a0 a1 a2 :=
 (cv_eq gp fid.zf1r [a0, a1, a2] zf1r.fn_eq).trans (by kernel_rfl)

noncomputable def zf25.fn : AFun := (gp.fn fid.zf25).getD default
theorem zf25.fn_eq : gp.fn fid.zf25 = some zf25.fn := by kernel_rfl
noncomputable def zf25.l1 (y4 : AV) (y8 : AV) (y9 : AV) (y10 : AV) (y18 : AV) (y19 : AV) (y20 : AV) (hh : Heap) : Option AV := zyao gp zf25.fn [true, false, true, false, false, true, true, false, false, true, false, true, false] (fun v h => zy5v h v) ⟨frame 42 [(4, y4), (8, y8), (9, y9), (10, y10), (18, y18), (19, y19), (20, y20)], hh⟩
noncomputable def zf25.l0 (y8 : AV) (y9 : AV) (y10 : AV) (hh : Heap) : Option AV := zyao gp zf25.fn [true, false, true, false] (fun v h => zy5v h v) ⟨frame 42 [(8, y8), (9, y9), (10, y10)], hh⟩
noncomputable def zf25.f (a0 : AV) : Option AV :=
 (opLen false a0).bind fun v1 => zf25.l0 a0 v1 (.int .i64 0) []
theorem zf25.l1_eq (y4 : AV) (y8 : AV) (y9 : AV) (y10 : AV) (y18 : AV) (y19 : AV) (y20 : AV) (hh : Heap) : zf25.l1 y4 y8 y9 y10 y18 y19 y20 hh =
  ((opBin .lss y20 y19).bind fun v12 => condK v12 ((zydh 3 y18 y20).bind fun v13 => (zyd4 hh (some 3) v13).bind fun v14 => (zydm (@HAppend.hAppend Heap Heap Heap _ hh [some [.bool false, .str ⟨#[]⟩, .str ⟨#[]⟩]]) 3 (.rp (List.length (hh : Heap)) 0) v14).bind fun h15 => (zyd1 0 (.rp (List.length (hh : Heap)) 0)).bind fun v16 => (zyd1 1 v16).bind fun v17 => (zyd4 h15 none v17).bind fun v18 => (opLen true v18).bind fun v19 => (opBin .gtr v19 (.int .i64 100)).bind fun v20 => zy6i v20 false ((zyd1 2 (.rp (List.length (hh : Heap)) 0)).bind fun v21 => (zyd4 h15 none v21).bind fun v22 => (opLen true v22).bind fun v23 => (opBin .gtr v23 (.int .i64 100)).bind fun v24 => condK v24 (zy5v h15 (.int .i64 5)) ((opBin .add y20 (.int .i64 1)).bind fun v25 => zf25.l1 y4 y8 y9 y10 y18 y19 v25 h15)) (zy5v h15 (.int .i64 5))) ((zyd4 hh (some 6) y4).bind fun v26 => (byVal (callW gp) hh fid.zf2o [v26]).bind fun v27 => (opBin .neq v27 (.int .i64 0)).bind fun v28 => condK v28 (zy5v hh v27) ((opBin .add y10 (.int .i64 1)).bind fun v29 => zf25.l0 y8 y9 v29 hh))) :=
 (zyar gp zf25.fn [true, false, true, false, false, true, true, false, false, true, false, true, false] (fun v h => zy5v h v) ⟨frame 42 [(4, y4), (8, y8), (9, y9), (10, y10), (18, y18), (19, y19), (20, y20)], hh⟩).trans (by kernel_rfl)
theorem zf25.l0_eq (y8 : AV) (y9 : AV) (y10 : AV) (hh : Heap) : zf25.l0 y8 y9 y10 hh =
  ((opBin .lss y10 y9).bind fun v2 => condK v2 ((zydh 6 y8 y10).bind fun v3 => (zyd4 hh (some 6) v3).bind fun v4 => (zydm (@HAppend.hAppend Heap Heap Heap _ hh [some [.bool false, .str ⟨#[]⟩, .str ⟨#[]⟩, .bool false, .str ⟨#[]⟩, .str ⟨#[]⟩]]) 6 (.rp (List.length (hh : Heap)) 0) v4).bind fun h5 => (zyd1 0 (.rp (List.length (hh : Heap)) 0)).bind fun v6 => (zyd4 h5 (some 3) v6).bind fun v7 => (zyd1 3 (.rp (List.length (hh : Heap)) 0)).bind fun v8 => (zyd4 h5 (some 3) v8).bind fun v9 => (zycy 3 2 [.bool false, .str ⟨#[]⟩, .str ⟨#[]⟩] [(0, v7), (1, v9)]).bind fun v10 => (opLen false v10).bind fun v11 => zf25.l1 (.rp (List.length (hh : Heap)) 0) y8 y9 y10 v10 v11 (.int .i64 0) h5) (zy5v hh (.int .i64 0))) :=
 (zyar gp zf25.fn [true, false, true, false] (fun v h => zy5v h v) ⟨frame 42 [(8, y8), (9, y9), (10, y10)], hh⟩).trans (by kernel_rfl)
theorem zf25.eq (a0 : AV) : cv gp fid.zf25 [a0] = zf25.f a0 :=
 (cv_eq gp fid.zf25 [a0] zf25.fn_eq).trans (by kernel_rfl)

noncomputable def zf26.fn : AFun := (gp.fn fid.zf26).getD default
theorem zf26.fn_eq : gp.fn fid.zf26 = some zf26.fn := by kernel_rfl
noncomputable def zf26.f (a0 : AV) (a1 : AV) (a2 : AV) : Option AV :=
 (opBox [] a0).bind fun r1 => (opBox r1.2 a1).bind fun r2 => (opBox r2.2 a2).bind fun r3 => (zyd4 r3.2 (some 6) r2.1).bind fun v4 => (zyd4 r3.2 (some 6) r1.1).bind fun v5 => (byVal (callW gp) r3.2 fid.zf2r [v4, v5]).bind fun v6 => (zyd4 r3.2 (some 6) r3.1).bind fun v7 => (zyd4 r3.2 (some 6) r1.1).bind fun v8 => (byVal (callW gp) r3.2 fid.zf2r [v7, v8]).bind fun v9 => (byVal (callW gp) r3.2 fid.zf2q [v6, v9]).bind fun v10 => (byVal (callW gp) r3.2 fid.zf2p [v10]).bind fun v11 => zy5v r3.2 v11
theorem zf26.eq (a0 : AV) (a1 : AV) (a2 : AV) : cv gp fid.zf26 [a0, a1, a2] = zf26.f a0 a1 a2 :=
 (cv_eq gp fid.zf26 [a0, a1, a2] zf26.fn_eq).trans (by kernel_rfl)

noncomputable def geom_on.fn : AFun := (gp.fn fid.geom_on).getD default
theorem geom_on.fn_eq : gp.fn fid.geom_on = some geom_on.fn := by kernel_rfl
noncomputable def geom_on.f (a0 : AV) (a1 : AV) (a2 : AV) : Option AV :=
 (opBox [] a0).bind fun r1 => (opBox r1.2 a1).bind fun r2 => (opBox r2.2 a2).bind fun r3 => (zyd4 r3.2 (some 6) r1.1).bind fun v4 => (zyd4 r3.2 (some 6) r2.1).bind fun v5 => (zyd4 r3.2 (some 6) r3.1).bind fun v6 => (byVal (callW gp) r3.2 fid.zf26 [v4, v5, v6]).bind fun v7 => (opBin .eql v7 (.int .i64 0)).bind fun v8 => zy6i v8 true ((zyd4 r3.2 (some 6) r1.1).bind fun v9 => (zyd4 r3.2 (some 6) r2.1).bind fun v10 => (zyd4 r3.2 (some 6) r3.1).bind fun v11 => (byVal (callW gp) r3.2 fid.zf2z [v9, v10, v11]).bind fun v12 => (opBin .geq v12 (.int .i64 0)).bind fun v13 => zy5v r3.2 v13) (zy5v r3.2 (.bool false))
theorem geom_on.eq (a0 : AV) (a1 : AV) (a2 : AV) : cv gp fid.geom_on [a0, a1, a2] = geom_on.f a0 a1 a2 :=
 (cv_eq gp fid.geom_on [a0, a1, a2] geom_on.fn_eq).trans (by kernel_rfl)

noncomputable def zf2p.fn : AFun := (gp.fn fid.zf2p).getD default
theorem zf2p.fn_eq : gp.fn fid.zf2p = some zf2p.fn := by kernel_rfl
noncomputable def zf2p.f (a0 : AV) : Option AV :=
 (opBox [] a0).bind fun r1 => (zyd4 r1.2 (some 3) r1.1).bind fun v2 => (byVal (callW gp) r1.2 fid.zf31 [v2]).bind fun v3 => (opExt 0 v3).bind fun v4 => (opExt 1 v3).bind fun v5 => zy5v r1.2 v4
theorem zf2p.eq (a0 : AV) : cv gp fid.zf2p [a0] = zf2p.f a0 :=
 (cv_eq gp fid.zf2p [a0] zf2p.fn_eq).trans (by kernel_rfl)

noncomputable def zf2q.fn : AFun := (gp.fn fid.zf2q).getD default
theorem zf2q.fn_eq : gp.fn fid.zf2q = some zf2q.fn := by kernel_rfl
noncomputable def zf2q.f (a0 : AV) (a1 : AV) : Option AV :=
 (opBox [] a0).bind fun r1 => (opBox r1.2 a1).bind fun r2 => (zyd4 (@HAppend.hAppend Heap Heap Heap _ r2.2 [some [.bool false, .str ⟨#[]⟩, .str ⟨#[]⟩]]) (some 6) r1.1).bind fun v3 => (zyd4 (@HAppend.hAppend Heap Heap Heap _ r2.2 [some [.bool false, .str ⟨#[]⟩, .str ⟨#[]⟩]]) (some 6) r2.1).bind fun v4 => (byVal (callW gp) (@HAppend.hAppend Heap Heap Heap _ r2.2 [some [.bool false, .str ⟨#[]⟩, .str ⟨#[]⟩]]) fid.zf39 [v3, v4]).bind fun v5 => (opExt 0 v5).bind fun v6 => (opExt 1 v5).bind fun v7 => (zydm (@HAppend.hAppend Heap Heap Heap _ (@HAppend.hAppend Heap Heap Heap _ r2.2 [some [.bool false, .str ⟨#[]⟩, .str ⟨#[]⟩]]) [some [.bool false, .str ⟨#[]⟩, .str ⟨#[]⟩]]) 3 (.rp (List.length ((@HAppend.hAppend Heap Heap Heap _ r2.2 [some [.bool false, .str ⟨#[]⟩, .str ⟨#[]⟩]]) : Heap)) 0) v6).bind fun h8 => (zyd4 h8 (some 3) (.rp (List.length ((@HAppend.hAppend Heap Heap Heap _ r2.2 [some [.bool false, .str ⟨#[]⟩, .str ⟨#[]⟩]]) : Heap)) 0)).bind fun v9 => (zydm h8 3 (.rp (List.length (r2.2 : Heap)) 0) v9).bind fun h10 => (zyd4 h10 (some 3) (.rp (List.length (r2.2 : Heap)) 0)).bind fun v11 => zy5v h10 v11
theorem zf2q.eq (a0 : AV) (a1 : AV) : cv gp fid.zf2q [a0, a1] = zf2q.f a0 a1 :=
 (cv_eq gp fid.zf2q [a0, a1] zf2q.fn_eq).trans (by kernel_rfl)

noncomputable def zf2r.fn : AFun := (gp.fn fid.zf2r).getD default
theorem zf2r.fn_eq : gp.fn fid.zf2r = some zf2r.fn := by kernel_rfl
noncomputable def zf2r.f (a0 : AV) (a1 : AV) : Option AV :=
 (opBox [] a0).bind fun r1 => (opBox r1.2 a1).bind fun r2 => (zyd4 (@HAppend.hAppend Heap Heap Heap _ r2.2 [some [.bool false, .str ⟨#[]⟩, .str ⟨#[]⟩, .bool false, .str ⟨#[]⟩, .str ⟨#[]⟩]]) (some 6) r1.1).bind fun v3 => (zyd4 (@HAppend.hAppend Heap Heap Heap _ r2.2 [some [.bool false, .str ⟨#[]⟩, .str ⟨#[]⟩, .bool false, .str ⟨#[]⟩, .str ⟨#[]⟩]]) (some 6) r2.1).bind fun v4 => (byVal (callW gp) (@HAppend.hAppend Heap Heap Heap _ r2.2 [some [.bool false, .str ⟨#[]⟩, .str ⟨#[]⟩, .bool false, .str ⟨#[]⟩, .str ⟨#[]⟩]]) fid.zf3a [v3, v4]).bind fun v5 => (opExt 0 v5).bind fun v6 => (opExt 1 v5).bind fun v7 => (zydm (@HAppend.hAppend Heap Heap Heap _ (@HAppend.hAppend Heap Heap Heap _ r2.2 [some [.bool false, .str ⟨#[]⟩, .str ⟨#[]⟩, .bool false, .str ⟨#[]⟩, .str ⟨#[]⟩]]) [some [.bool false, .str ⟨#[]⟩, .str ⟨#[]⟩, .bool false, .str ⟨#[]⟩, .str ⟨#[]⟩]]) 6 (.rp (List.length ((@HAppend.hAppend Heap Heap Heap _ r2.2 [some [.bool false, .str ⟨#[]⟩, .str ⟨#[]⟩, .bool false, .str ⟨#[]⟩, .str ⟨#[]⟩]]) : Heap)) 0) v6).bind fun h8 => (zyd4 h8 (some 6) (.rp (List.length ((@HAppend.hAppend Heap Heap Heap _ r2.2 [some [.bool false, .str ⟨#[]⟩, .str ⟨#[]⟩, .bool false, .str ⟨#[]⟩, .str ⟨#[]⟩]]) : Heap)) 0)).bind fun v9 => (zydm h8 6 (.rp (List.length (r2.2 : Heap)) 0) v9).bind fun h10 => (zyd4 h10 (some 6) (.rp (List.length (r2.2 : Heap)) 0)).bind fun v11 => zy5v h10 v11
theorem zf2r.eq (a0 : AV) (a1 : AV) : cv gp fid.zf2r [a0, a1] = zf2r.f a0 a1 :=
 (cv_eq gp fid.zf2r [a0, a1] zf2r.fn_eq).trans (by kernel_rfl)

noncomputable def zf2z.fn : AFun := (gp.fn fid.zf2z).getD default
theorem zf2z.fn_eq : gp.fn fid.zf2z = some zf2z.fn := by kernel_rfl
noncomputable def zf2z.f (a0 : AV) (a1 : AV) (a2 : AV) : Option AV :=
 (opBox [] a0).bind fun r1 => (opBox r1.2 a1).bind fun r2 => (opBox r2.2 a2).bind fun r3 => (zyd4 r3.2 (some 6) r1.1).bind fun v4 => (zyd4 r3.2 (some 6) r3.1).bind fun v5 => (byVal (callW gp) r3.2 fid.zf2r [v4, v5]).bind fun v6 => (zyd4 r3.2 (some 6) r2.1).bind fun v7 => (zyd4 r3.2 (some 6) r3.1).bind fun v8 => (byVal (callW gp) r3.2 fid.zf2r [v7, v8]).bind fun v9 => (byVal (callW gp) r3.2 fid.zf3k [v6, v9]).bind fun v10 => (opExt 0 v10).bind fun v11 => (opExt 1 v10).bind fun v12 => (zydm (@HAppend.hAppend Heap Heap Heap _ r3.2 [some [.bool false, .str ⟨#[]⟩, .str ⟨#[]⟩]]) 3 (.rp (List.length (r3.2 : Heap)) 0) v11).bind fun h13 => (zyd4 h13 (some 3) (.rp (List.length (r3.2 : Heap)) 0)).bind fun v14 => (byVal (callW gp) h13 fid.zf2p [v14]).bind fun v15 => (opUn .neg v15).bind fun v16 => zy5v h13 v16
theorem zf2z.eq (a0 : AV) (a1 : AV) (a2 : AV) : cv gp fid.zf2z [a0, a1, a2] = zf2z.f a0 a1 a2 :=
 (cv_eq gp fid.zf2z [a0, a1, a2] zf2z.fn_eq).trans (by kernel_rfl)

end Go.Proofs.YtiblnpnfaadmcaaGreat.Am
