import Derived.Test.YtojfiboeghonoaaGreatAmGp
set_option linter.unusedVariables false
set_option maxRecDepth 10000
set_option maxHeartbeats 0
namespace Go.Proofs.YtojfiboeghonoaaGreat.Am
open Go
/-! gusset gussetref12.At -/
noncomputable def zf0n.fn : AFun := (gp.fn fid.zf0n).getD default
theorem zf0n.fn_eq : gp.fn fid.zf0n = some zf0n.fn := by kernel_rfl
noncomputable def zf0n.l0 (y0 : AV) (y3 : AV) : Option AV := loopAt gp zf0n.fn [true, false, true, false] (fun v h => freeze h v) ⟨frame 19 [(0, y0), (3, y3)], []⟩
noncomputable def zf0n.f (a0 : AV) : Option AV :=
  zf0n.l0 a0 (.int .i64 0)
theorem zf0n.l0_eq (y0 : AV) (y3 : AV) : zf0n.l0 y0 y3 =
    ((opLen false y0).bind fun v1 => (opBin .lss y3 v1).bind fun v2 => condK v2 ((opSidx 3 y0 y3).bind fun v3 => (opLoad [] (some 3) v3).bind fun v4 => (byVal (callW gp) [] fid.zf1f [v4]).bind fun v5 => (opBin .neq v5 (.int .i64 0)).bind fun v6 => condK v6 (freeze [] v5) ((opBin .add y3 (.int .i64 1)).bind fun v7 => zf0n.l0 y0 v7)) (freeze [] (.int .i64 0))) :=
  (loopAt_eq gp zf0n.fn [true, false, true, false] (fun v h => freeze h v) ⟨frame 19 [(0, y0), (3, y3)], []⟩).trans (by kernel_rfl)
theorem zf0n.eq (a0 : AV) : cv gp fid.zf0n [a0] = zf0n.f a0 :=
  (cv_eq gp fid.zf0n [a0] zf0n.fn_eq).trans (by kernel_rfl)

noncomputable def zf0w.fn : AFun := (gp.fn fid.zf0w).getD default
theorem zf0w.fn_eq : gp.fn fid.zf0w = some zf0w.fn := by kernel_rfl
noncomputable def zf0w.l0 (y1 : AV) (y4 : AV) (hh : Heap) : Option AV := loopAt gp zf0w.fn [true, true, true, true, false, true, false] (fun v h => freeze h v) ⟨frame 132 [(1, y1), (4, y4)], hh⟩
noncomputable def zf0w.l2 (y1 : AV) (y6 : AV) (y7 : AV) (hh : Heap) : Option AV := loopAt gp zf0w.fn [true, true, true, true, true, false, true, false, false, true, false, false, true, false] (fun v h => freeze h v) ⟨frame 132 [(1, y1), (6, y6), (7, y7)], hh⟩
noncomputable def zf0w.l1 (y1 : AV) (y6 : AV) (hh : Heap) : Option AV := loopAt gp zf0w.fn [true, true, true, true, true, false, true, false] (fun v h => freeze h v) ⟨frame 132 [(1, y1), (6, y6)], hh⟩
noncomputable def zf0w.l3 (y1 : AV) (y12 : AV) (hh : Heap) : Option AV := loopAt gp zf0w.fn [true, true, true, true, true, true, false, true, false] (fun v h => freeze h v) ⟨frame 132 [(1, y1), (12, y12)], hh⟩
noncomputable def zf0w.f (a0 : AV) : Option AV :=
  (opBox [] a0).bind fun r1 => (opFaddr 0 r1.1).bind fun v2 => (opLoad r1.2 none v2).bind fun v3 => (opLen false v3).bind fun v4 => (opBin .gtr v4 (.int .i64 400)).bind fun v5 => guardK v5 false ((opFaddr 1 r1.1).bind fun v6 => (opLoad r1.2 none v6).bind fun v7 => (opLen false v7).bind fun v8 => (opBin .gtr v8 (.int .i64 900)).bind fun v9 => guardK v9 false ((opFaddr 2 r1.1).bind fun v10 => (opLoad r1.2 none v10).bind fun v11 => (opLen false v11).bind fun v12 => (opBin .gtr v12 (.int .i64 1300)).bind fun v13 => condK v13 (freeze r1.2 (.int .i64 5)) ((opFaddr 0 r1.1).bind fun v14 => (opLoad r1.2 none v14).bind fun v15 => (byVal (callW gp) r1.2 fid.zf0e [v15]).bind fun v16 => (opBin .neq v16 (.int .i64 0)).bind fun v17 => condK v17 (freeze r1.2 v16) (zf0w.l0 r1.1 (.int .i64 0) r1.2))) (freeze r1.2 (.int .i64 5))) (freeze r1.2 (.int .i64 5))
theorem zf0w.l0_eq (y1 : AV) (y4 : AV) (hh : Heap) : zf0w.l0 y1 y4 hh =
    ((opFaddr 1 y1).bind fun v18 => (opLoad hh none v18).bind fun v19 => (opLen false v19).bind fun v20 => (opBin .lss y4 v20).bind fun v21 => condK v21 ((opLoad hh (some 3) y1).bind fun v22 => (byVal (callW gp) hh fid.zf1n [v22, y4]).bind fun v23 => (opUn .not v23).bind fun v24 => condK v24 (freeze hh (.int .i64 7)) ((opBin .add y4 (.int .i64 1)).bind fun v25 => zf0w.l0 y1 v25 hh)) (zf0w.l1 y1 (.int .i64 0) hh)) :=
  (loopAt_eq gp zf0w.fn [true, true, true, true, false, true, false] (fun v h => freeze h v) ⟨frame 132 [(1, y1), (4, y4)], hh⟩).trans (by kernel_rfl)
theorem zf0w.l2_eq (y1 : AV) (y6 : AV) (y7 : AV) (hh : Heap) : zf0w.l2 y1 y6 y7 hh =
    ((opBin .lss y7 (.int .i64 3)).bind fun v30 => condK v30 ((opLoad hh (some 3) y1).bind fun v31 => (byVal (callW gp) hh fid.zf15 [v31, y6, y7]).bind fun v32 => (opExt 0 v32).bind fun v33 => (opExt 1 v32).bind fun v34 => (opLoad hh (some 3) y1).bind fun v35 => (byVal (callW gp) hh fid.zf1o [v35, v33, v34]).bind fun v36 => (opExt 0 v36).bind fun v37 => (opExt 1 v36).bind fun v38 => (opBin .neq v37 y6).bind fun v39 => guardK v39 false ((opBin .neq v38 y7).bind fun v40 => condK v40 (freeze hh (.int .i64 7)) ((opBin .add y7 (.int .i64 1)).bind fun v41 => zf0w.l2 y1 y6 v41 hh)) (freeze hh (.int .i64 7))) ((opBin .add y6 (.int .i64 1)).bind fun v42 => zf0w.l1 y1 v42 hh)) :=
  (loopAt_eq gp zf0w.fn [true, true, true, true, true, false, true, false, false, true, false, false, true, false] (fun v h => freeze h v) ⟨frame 132 [(1, y1), (6, y6), (7, y7)], hh⟩).trans (by kernel_rfl)
theorem zf0w.l1_eq (y1 : AV) (y6 : AV) (hh : Heap) : zf0w.l1 y1 y6 hh =
    ((opFaddr 1 y1).bind fun v26 => (opLoad hh none v26).bind fun v27 => (opLen false v27).bind fun v28 => (opBin .lss y6 v28).bind fun v29 => condK v29 (zf0w.l2 y1 y6 (.int .i64 0) hh) (zf0w.l3 y1 (.int .i64 0) hh)) :=
  (loopAt_eq gp zf0w.fn [true, true, true, true, true, false, true, false] (fun v h => freeze h v) ⟨frame 132 [(1, y1), (6, y6)], hh⟩).trans (by kernel_rfl)
theorem zf0w.l3_eq (y1 : AV) (y12 : AV) (hh : Heap) : zf0w.l3 y1 y12 hh =
    ((opFaddr 2 y1).bind fun v43 => (opLoad hh none v43).bind fun v44 => (opLen false v44).bind fun v45 => (opBin .lss y12 v45).bind fun v46 => condK v46 ((opFaddr 2 y1).bind fun v47 => (opLoad hh none v47).bind fun v48 => (opSidx 3 v48 y12).bind fun v49 => (opLoad hh (some 3) v49).bind fun v50 => (opStore (@HAppend.hAppend Heap Heap Heap _ hh [some [.int .i64 0, .int .i64 0, .bool false]]) 3 (.rp (List.length (hh : Heap)) 0) v50).bind fun h51 => (opLoad h51 (some 3) y1).bind fun v52 => (opFaddr 0 (.rp (List.length (hh : Heap)) 0)).bind fun v53 => (opLoad h51 none v53).bind fun v54 => (opFaddr 1 (.rp (List.length (hh : Heap)) 0)).bind fun v55 => (opLoad h51 none v55).bind fun v56 => (byVal (callW gp) h51 fid.zf1o [v52, v54, v56]).bind fun v57 => (opExt 0 v57).bind fun v58 => (opExt 1 v57).bind fun v59 => (opLoad h51 (some 3) y1).bind fun v60 => (opFaddr 1 (.rp (List.length (hh : Heap)) 0)).bind fun v61 => (opLoad h51 none v61).bind fun v62 => (opFaddr 0 (.rp (List.length (hh : Heap)) 0)).bind fun v63 => (opLoad h51 none v63).bind fun v64 => (byVal (callW gp) h51 fid.zf1o [v60, v62, v64]).bind fun v65 => (opExt 0 v65).bind fun v66 => (opExt 1 v65).bind fun v67 => (opBin .lss v58 (.int .i64 0)).bind fun v68 => guardK v68 true ((opBin .lss v66 (.int .i64 0)).bind fun v69 => guardK v69 false ((opFaddr 2 y1).bind fun v70 => (opLoad h51 none v70).bind fun v71 => (opFaddr 0 (.rp (List.length (hh : Heap)) 0)).bind fun v72 => (opLoad h51 none v72).bind fun v73 => (opFaddr 1 (.rp (List.length (hh : Heap)) 0)).bind fun v74 => (opLoad h51 none v74).bind fun v75 => (byVal (callW gp) h51 fid.zf1p [v71, v73, v75]).bind fun v76 => (opBin .neq v76 y12).bind fun v77 => condK v77 (freeze h51 (.int .i64 7)) ((opBin .add y12 (.int .i64 1)).bind fun v86 => zf0w.l3 y1 v86 h51)) (freeze h51 (.int .i64 7))) ((opFaddr 2 y1).bind fun v78 => (opLoad h51 none v78).bind fun v79 => (opFaddr 0 (.rp (List.length (hh : Heap)) 0)).bind fun v80 => (opLoad h51 none v80).bind fun v81 => (opFaddr 1 (.rp (List.length (hh : Heap)) 0)).bind fun v82 => (opLoad h51 none v82).bind fun v83 => (byVal (callW gp) h51 fid.zf1p [v79, v81, v83]).bind fun v84 => (opBin .neq v84 y12).bind fun v85 => condK v85 (freeze h51 (.int .i64 7)) ((opBin .add y12 (.int .i64 1)).bind fun v87 => zf0w.l3 y1 v87 h51))) (freeze hh (.int .i64 0))) :=
  (loopAt_eq gp zf0w.fn [true, true, true, true, true, true, false, true, false] (fun v h => freeze h v) ⟨frame 132 [(1, y1), (12, y12)], hh⟩).trans (by kernel_rfl)
theorem zf0w.eq (a0 : AV) : cv gp fid.zf0w [a0] = zf0w.f a0 :=
  (cv_eq gp fid.zf0w [a0] zf0w.fn_eq).trans (by kernel_rfl)

noncomputable def zf15.fn : AFun := (gp.fn fid.zf15).getD default
theorem zf15.fn_eq : gp.fn fid.zf15 = some zf15.fn := by kernel_rfl
noncomputable def zf15.f (a0 : AV) (a1 : AV) (a2 : AV) : Option AV :=
  (opBox [] a0).bind fun r1 => (opFaddr 1 r1.1).bind fun v2 => (opLoad r1.2 none v2).bind fun v3 => (opSidx 3 v3 a1).bind fun v4 => (opAidx 1 3 v4 a2).bind fun v5 => (opLoad r1.2 none v5).bind fun v6 => (opFaddr 1 r1.1).bind fun v7 => (opLoad r1.2 none v7).bind fun v8 => (opBin .add a2 (.int .i64 1)).bind fun v9 => (opBin .rem v9 (.int .i64 3)).bind fun v10 => (opSidx 3 v8 a1).bind fun v11 => (opAidx 1 3 v11 v10).bind fun v12 => (opLoad r1.2 none v12).bind fun v13 => freeze r1.2 (.tup [v6, v13])
theorem zf15.eq (a0 : AV) (a1 : AV) (a2 : AV) : cv gp fid.zf15 [a0, a1, a2] = zf15.f a0 a1 a2 :=
  (cv_eq gp fid.zf15 [a0, a1, a2] zf15.fn_eq).trans (by kernel_rfl)

noncomputable def zf1n.fn : AFun := (gp.fn fid.zf1n).getD default
theorem zf1n.fn_eq : gp.fn fid.zf1n = some zf1n.fn := by kernel_rfl
noncomputable def zf1n.l0 (y2 : AV) (y5 : AV) (y6 : AV) (y7 : AV) (hh : Heap) : Option AV := loopAt gp zf1n.fn [true, true, true, false, true, false] (fun v h => freeze h v) ⟨frame 51 [(2, y2), (5, y5), (6, y6), (7, y7)], hh⟩
noncomputable def zf1n.f (a0 : AV) (a1 : AV) : Option AV :=
  (opBox [] a0).bind fun r1 => (opFaddr 0 r1.1).bind fun v2 => (opLoad r1.2 none v2).bind fun v3 => (opLen false v3).bind fun v4 => (opFaddr 1 r1.1).bind fun v5 => (opLoad r1.2 none v5).bind fun v6 => (opSidx 3 v6 a1).bind fun v7 => (opLoad r1.2 (some 3) v7).bind fun v8 => (opStore (@HAppend.hAppend Heap Heap Heap _ r1.2 [some [.int .i64 0, .int .i64 0, .int .i64 0]]) 3 (.rp (List.length (r1.2 : Heap)) 0) v8).bind fun h9 => zf1n.l0 r1.1 v4 (.rp (List.length (r1.2 : Heap)) 0) (.int .i64 0) h9
theorem zf1n.l0_eq (y2 : AV) (y5 : AV) (y6 : AV) (y7 : AV) (hh : Heap) : zf1n.l0 y2 y5 y6 y7 hh =
    ((opBin .lss y7 (.int .i64 3)).bind fun v10 => condK v10 ((opAidx 1 3 y6 y7).bind fun v11 => (opLoad hh none v11).bind fun v12 => (opBin .lss v12 (.int .i64 0)).bind fun v13 => guardK v13 false ((opAidx 1 3 y6 y7).bind fun v14 => (opLoad hh none v14).bind fun v15 => (opBin .geq v15 y5).bind fun v16 => condK v16 (freeze hh (.bool false)) ((opBin .add y7 (.int .i64 1)).bind fun v17 => zf1n.l0 y2 y5 y6 v17 hh)) (freeze hh (.bool false))) ((opFaddr 0 y2).bind fun v18 => (opLoad hh none v18).bind fun v19 => (opAidx 1 3 y6 (.int .i64 0)).bind fun v20 => (opLoad hh none v20).bind fun v21 => (opSidx 6 v19 v21).bind fun v22 => (opLoad hh (some 6) v22).bind fun v23 => (opFaddr 0 y2).bind fun v24 => (opLoad hh none v24).bind fun v25 => (opAidx 1 3 y6 (.int .i64 1)).bind fun v26 => (opLoad hh none v26).bind fun v27 => (opSidx 6 v25 v27).bind fun v28 => (opLoad hh (some 6) v28).bind fun v29 => (opFaddr 0 y2).bind fun v30 => (opLoad hh none v30).bind fun v31 => (opAidx 1 3 y6 (.int .i64 2)).bind fun v32 => (opLoad hh none v32).bind fun v33 => (opSidx 6 v31 v33).bind fun v34 => (opLoad hh (some 6) v34).bind fun v35 => (byVal (callW gp) hh fid.zf16 [v23, v29, v35]).bind fun v36 => (opBin .gtr v36 (.int .i64 0)).bind fun v37 => freeze hh v37)) :=
  (loopAt_eq gp zf1n.fn [true, true, true, false, true, false] (fun v h => freeze h v) ⟨frame 51 [(2, y2), (5, y5), (6, y6), (7, y7)], hh⟩).trans (by kernel_rfl)
theorem zf1n.eq (a0 : AV) (a1 : AV) : cv gp fid.zf1n [a0, a1] = zf1n.f a0 a1 :=
  (cv_eq gp fid.zf1n [a0, a1] zf1n.fn_eq).trans (by kernel_rfl)

noncomputable def zf1o.fn : AFun := (gp.fn fid.zf1o).getD default
theorem zf1o.fn_eq : gp.fn fid.zf1o = some zf1o.fn := by kernel_rfl
noncomputable def zf1o.l1 (y1 : AV) (y2 : AV) (y3 : AV) (y8 : AV) (y9 : AV) (hh : Heap) : Option AV := loopAt gp zf1o.fn [true, false, true, false, false, true, false, false, true, false] (fun v h => freeze h v) ⟨frame 40 [(1, y1), (2, y2), (3, y3), (8, y8), (9, y9)], hh⟩
noncomputable def zf1o.l0 (y1 : AV) (y2 : AV) (y3 : AV) (y8 : AV) (hh : Heap) : Option AV := loopAt gp zf1o.fn [true, false, true, false] (fun v h => freeze h v) ⟨frame 40 [(1, y1), (2, y2), (3, y3), (8, y8)], hh⟩
noncomputable def zf1o.f (a0 : AV) (a1 : AV) (a2 : AV) : Option AV :=
  (opBox [] a0).bind fun r1 => zf1o.l0 a1 a2 r1.1 (.int .i64 0) r1.2
theorem zf1o.l1_eq (y1 : AV) (y2 : AV) (y3 : AV) (y8 : AV) (y9 : AV) (hh : Heap) : zf1o.l1 y1 y2 y3 y8 y9 hh =
    ((opBin .lss y9 (.int .i64 3)).bind fun v6 => condK v6 ((opLoad hh (some 3) y3).bind fun v7 => (byVal (callW gp) hh fid.zf15 [v7, y8, y9]).bind fun v8 => (opExt 0 v8).bind fun v9 => (opExt 1 v8).bind fun v10 => (opBin .eql v9 y1).bind fun v11 => guardK v11 true ((opBin .eql v10 y2).bind fun v12 => condK v12 (freeze hh (.tup [y8, y9])) ((opBin .add y9 (.int .i64 1)).bind fun v13 => zf1o.l1 y1 y2 y3 y8 v13 hh)) ((opBin .add y9 (.int .i64 1)).bind fun v14 => zf1o.l1 y1 y2 y3 y8 v14 hh)) ((opBin .add y8 (.int .i64 1)).bind fun v15 => zf1o.l0 y1 y2 y3 v15 hh)) :=
  (loopAt_eq gp zf1o.fn [true, false, true, false, false, true, false, false, true, false] (fun v h => freeze h v) ⟨frame 40 [(1, y1), (2, y2), (3, y3), (8, y8), (9, y9)], hh⟩).trans (by kernel_rfl)
theorem zf1o.l0_eq (y1 : AV) (y2 : AV) (y3 : AV) (y8 : AV) (hh : Heap) : zf1o.l0 y1 y2 y3 y8 hh =
    ((opFaddr 1 y3).bind fun v2 => (opLoad hh none v2).bind fun v3 => (opLen false v3).bind fun v4 => (opBin .lss y8 v4).bind fun v5 => condK v5 (zf1o.l1 y1 y2 y3 y8 (.int .i64 0) hh) (freeze hh (.tup [(.int .i64 (-1)), (.int .i64 0)]))) :=
  (loopAt_eq gp zf1o.fn [true, false, true, false] (fun v h => freeze h v) ⟨frame 40 [(1, y1), (2, y2), (3, y3), (8, y8)], hh⟩).trans (by kernel_rfl)
theorem zf1o.eq (a0 : AV) (a1 : AV) (a2 : AV) : cv gp fid.zf1o [a0, a1, a2] = zf1o.f a0 a1 a2 :=
  (cv_eq gp fid.zf1o [a0, a1, a2] zf1o.fn_eq).trans (by kernel_rfl)

noncomputable def zf1p.fn : AFun := (gp.fn fid.zf1p).getD default
theorem zf1p.fn_eq : gp.fn fid.zf1p = some zf1p.fn := by kernel_rfl
noncomputable def zf1p.l0 (y0 : AV) (y1 : AV) (y2 : AV) (y7 : AV) : Option AV := loopAt gp zf1p.fn [true, false, true, false] (fun v h => freeze h v) ⟨frame 49 [(0, y0), (1, y1), (2, y2), (7, y7)], []⟩
noncomputable def zf1p.f (a0 : AV) (a1 : AV) (a2 : AV) : Option AV :=
  zf1p.l0 a0 a1 a2 (.int .i64 0)
theorem zf1p.l0_eq (y0 : AV) (y1 : AV) (y2 : AV) (y7 : AV) : zf1p.l0 y0 y1 y2 y7 =
    ((opLen false y0).bind fun v1 => (opBin .lss y7 v1).bind fun v2 => condK v2 ((opSidx 3 y0 y7).bind fun v3 => (opFaddr 0 v3).bind fun v4 => (opLoad [] none v4).bind fun v5 => (opBin .eql v5 y1).bind fun v6 => guardK v6 true ((opSidx 3 y0 y7).bind fun v7 => (opFaddr 1 v7).bind fun v8 => (opLoad [] none v8).bind fun v9 => (opBin .eql v9 y2).bind fun v10 => guardK v10 false ((opSidx 3 y0 y7).bind fun v11 => (opFaddr 0 v11).bind fun v12 => (opLoad [] none v12).bind fun v13 => (opBin .eql v13 y2).bind fun v14 => guardK v14 true ((opSidx 3 y0 y7).bind fun v15 => (opFaddr 1 v15).bind fun v16 => (opLoad [] none v16).bind fun v17 => (opBin .eql v17 y1).bind fun v18 => condK v18 (freeze [] y7) ((opBin .add y7 (.int .i64 1)).bind fun v27 => zf1p.l0 y0 y1 y2 v27)) ((opBin .add y7 (.int .i64 1)).bind fun v28 => zf1p.l0 y0 y1 y2 v28)) (freeze [] y7)) ((opSidx 3 y0 y7).bind fun v19 => (opFaddr 0 v19).bind fun v20 => (opLoad [] none v20).bind fun v21 => (opBin .eql v21 y2).bind fun v22 => guardK v22 true ((opSidx 3 y0 y7).bind fun v23 => (opFaddr 1 v23).bind fun v24 => (opLoad [] none v24).bind fun v25 => (opBin .eql v25 y1).bind fun v26 => condK v26 (freeze [] y7) ((opBin .add y7 (.int .i64 1)).bind fun v29 => zf1p.l0 y0 y1 y2 v29)) ((opBin .add y7 (.int .i64 1)).bind fun v30 => zf1p.l0 y0 y1 y2 v30))) (freeze [] (.int .i64 (-1)))) :=
  (loopAt_eq gp zf1p.fn [true, false, true, false] (fun v h => freeze h v) ⟨frame 49 [(0, y0), (1, y1), (2, y2), (7, y7)], []⟩).trans (by kernel_rfl)
theorem zf1p.eq (a0 : AV) (a1 : AV) (a2 : AV) : cv gp fid.zf1p [a0, a1, a2] = zf1p.f a0 a1 a2 :=
  (cv_eq gp fid.zf1p [a0, a1, a2] zf1p.fn_eq).trans (by kernel_rfl)

end Go.Proofs.YtojfiboeghonoaaGreat.Am
