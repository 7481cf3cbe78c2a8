import Derived.Test.YtiblnpnfaadmcaaGreatAmGp
set_option linter.unusedVariables false
set_option maxRecDepth 10000
set_option maxHeartbeats 0
namespace Go.Proofs.YtiblnpnfaadmcaaGreat.Am
open Go
/-! gusset gussetref09.Box -/
noncomputable def zf0m.fn : AFun := (gp.fn fid.zf0m).getD default
theorem zf0m.fn_eq : gp.fn fid.zf0m = some zf0m.fn := by kernel_rfl
noncomputable def zf0m.l0 (y0 : AV) (y1 : AV) (y5 : AV) : Option AV := zyao gp zf0m.fn [true, false, true, false] (fun v h => zy5v h v) ⟨frame 44 [(0, y0), (1, y1), (5, y5)], []⟩
noncomputable def zf0m.f (a0 : AV) (a1 : AV) : Option AV :=
 zf0m.l0 a0 a1 (.int .i64 0)
theorem zf0m.l0_eq (y0 : AV) (y1 : AV) (y5 : AV) : zf0m.l0 y0 y1 y5 =
  ((opLen false y1).bind fun v1 => (opBin .lss y5 v1).bind fun v2 => condK v2 ((zydh 3 y1 y5).bind fun v3 => (zyd1 0 v3).bind fun v4 => (zyd4 [] none v4).bind fun v5 => (opBin .lss v5 (.int .i64 0)).bind fun v6 => zy6i v6 false ((zydh 3 y1 y5).bind fun v7 => (zyd1 0 v7).bind fun v8 => (zyd4 [] none v8).bind fun v9 => (opBin .geq v9 y0).bind fun v10 => zy6i v10 false ((zydh 3 y1 y5).bind fun v11 => (zyd1 1 v11).bind fun v12 => (zyd4 [] none v12).bind fun v13 => (opBin .lss v13 (.int .i64 0)).bind fun v14 => zy6i v14 false ((zydh 3 y1 y5).bind fun v15 => (zyd1 1 v15).bind fun v16 => (zyd4 [] none v16).bind fun v17 => (opBin .geq v17 y0).bind fun v18 => condK v18 (zy5v [] (.bool false)) ((opBin .add y5 (.int .i64 1)).bind fun v19 => zf0m.l0 y0 y1 v19)) (zy5v [] (.bool false))) (zy5v [] (.bool false))) (zy5v [] (.bool false))) (zy5v [] (.bool true))) :=
 (zyar gp zf0m.fn [true, false, true, false] (fun v h => zy5v h v) ⟨frame 44 [(0, y0), (1, y1), (5, y5)], []⟩).trans (by kernel_rfl)
theorem zf0m.eq (a0 : AV) (a1 : AV) : cv gp fid.zf0m [a0, a1] = zf0m.f a0 a1 :=
 (cv_eq gp fid.zf0m [a0, a1] zf0m.fn_eq).trans (by kernel_rfl)

noncomputable def zf0n.fn : AFun := (gp.fn fid.zf0n).getD default
theorem zf0n.fn_eq : gp.fn fid.zf0n = some zf0n.fn := by kernel_rfl
noncomputable def zf0n.l1 (y0 : AV) (y1 : AV) (y4 : AV) (y5 : AV) (y6 : AV) (y7 : AV) (hh : Heap) : Option AV := zyao gp zf0n.fn [true, true, false, true, false, false, true, false, false, false, true, false] (fun v h => zy5v h v) ⟨frame 145 [(0, y0), (1, y1), (4, y4), (5, y5), (6, y6), (7, y7)], hh⟩
noncomputable def zf0n.l2 (y0 : AV) (y1 : AV) (y4 : AV) (y5 : AV) (y6 : AV) (y8 : AV) (hh : Heap) : Option AV := zyao gp zf0n.fn [true, true, false, true, false, false, true, false, false, true, true, false] (fun v h => zy5v h v) ⟨frame 145 [(0, y0), (1, y1), (4, y4), (5, y5), (6, y6), (8, y8)], hh⟩
noncomputable def zf0n.l0 (y0 : AV) (y1 : AV) (y4 : AV) (y5 : AV) (y6 : AV) (hh : Heap) : Option AV := zyao gp zf0n.fn [true, true, false, true, false] (fun v h => zy5v h v) ⟨frame 145 [(0, y0), (1, y1), (4, y4), (5, y5), (6, y6)], hh⟩
noncomputable def zf0n.l4 (y0 : AV) (y1 : AV) (y4 : AV) (y5 : AV) (y9 : AV) (y10 : AV) (hh : Heap) : Option AV := zyao gp zf0n.fn [true, true, true, false, true, false, false, true, false, false, true, false] (fun v h => zy5v h v) ⟨frame 145 [(0, y0), (1, y1), (4, y4), (5, y5), (9, y9), (10, y10)], hh⟩
noncomputable def zf0n.l3 (y0 : AV) (y1 : AV) (y4 : AV) (y5 : AV) (y9 : AV) (hh : Heap) : Option AV := zyao gp zf0n.fn [true, true, true, false, true, false] (fun v h => zy5v h v) ⟨frame 145 [(0, y0), (1, y1), (4, y4), (5, y5), (9, y9)], hh⟩
noncomputable def zf0n.j0 (y0 : AV) (y1 : AV) (y4 : AV) (y5 : AV) (y6 : AV) (y8 : AV) (y64 : AV) (hh : Heap) : Option AV :=
 condK y64 ((zyd4 hh (some 3) y5).bind fun v31 => (zydh 3 y1 y8).bind fun v32 => (zyd1 0 v32).bind fun v33 => (zyd4 hh none v33).bind fun v34 => (zydh 6 y0 v34).bind fun v35 => (zyd4 hh (some 6) v35).bind fun v36 => (zydh 3 y1 y8).bind fun v37 => (zyd1 1 v37).bind fun v38 => (zyd4 hh none v38).bind fun v39 => (zydh 6 y0 v39).bind fun v40 => (zyd4 hh (some 6) v40).bind fun v41 => (zydh 6 y0 y6).bind fun v42 => (zyd4 hh (some 6) v42).bind fun v43 => (byVal (callW gp) hh fid.zf18 [v36, v41, v43]).bind fun v44 => (byVal (callW gp) hh fid.zf17 [v31, v44]).bind fun v45 => (zydm hh 3 y5 v45).bind fun h46 => (opBin .add y8 (.int .i64 1)).bind fun v47 => zf0n.l2 y0 y1 y4 y5 y6 v47 h46) ((opBin .add y8 (.int .i64 1)).bind fun v48 => zf0n.l2 y0 y1 y4 y5 y6 v48 hh)
noncomputable def zf0n.f (a0 : AV) (a1 : AV) : Option AV :=
 (zydh 6 a0 (.int .i64 0)).bind fun v1 => (zyd4 [some [.bool false, .str ⟨#[]⟩, .str ⟨#[]⟩]] (some 6) v1).bind fun v2 => (zydh 6 a0 (.int .i64 1)).bind fun v3 => (zyd4 [some [.bool false, .str ⟨#[]⟩, .str ⟨#[]⟩]] (some 6) v3).bind fun v4 => (byVal (callW gp) [some [.bool false, .str ⟨#[]⟩, .str ⟨#[]⟩]] fid.zf0o [v2, v4]).bind fun v5 => (zydm (@HAppend.hAppend Heap Heap Heap _ [some [.bool false, .str ⟨#[]⟩, .str ⟨#[]⟩]] [some [.bool false, .str ⟨#[]⟩, .str ⟨#[]⟩]]) 3 (.rp (List.length ([some [.bool false, .str ⟨#[]⟩, .str ⟨#[]⟩]] : Heap)) 0) v5).bind fun h6 => zf0n.l0 a0 a1 (.rp 0 0) (.rp (List.length ([some [.bool false, .str ⟨#[]⟩, .str ⟨#[]⟩]] : Heap)) 0) (.int .i64 0) h6
theorem zf0n.l1_eq (y0 : AV) (y1 : AV) (y4 : AV) (y5 : AV) (y6 : AV) (y7 : AV) (hh : Heap) : zf0n.l1 y0 y1 y4 y5 y6 y7 hh =
  ((opLen false y0).bind fun v10 => (opBin .lss y7 v10).bind fun v11 => condK v11 ((zyd4 hh (some 3) y5).bind fun v12 => (zydh 6 y0 y6).bind fun v13 => (zyd4 hh (some 6) v13).bind fun v14 => (zydh 6 y0 y7).bind fun v15 => (zyd4 hh (some 6) v15).bind fun v16 => (byVal (callW gp) hh fid.zf0o [v14, v16]).bind fun v17 => (byVal (callW gp) hh fid.zf17 [v12, v17]).bind fun v18 => (zydm hh 3 y5 v18).bind fun h19 => (opBin .add y7 (.int .i64 1)).bind fun v20 => zf0n.l1 y0 y1 y4 y5 y6 v20 h19) (zf0n.l2 y0 y1 y4 y5 y6 (.int .i64 0) hh)) :=
 (zyar gp zf0n.fn [true, true, false, true, false, false, true, false, false, false, true, false] (fun v h => zy5v h v) ⟨frame 145 [(0, y0), (1, y1), (4, y4), (5, y5), (6, y6), (7, y7)], hh⟩).trans (by kernel_rfl)
theorem zf0n.l2_eq (y0 : AV) (y1 : AV) (y4 : AV) (y5 : AV) (y6 : AV) (y8 : AV) (hh : Heap) : zf0n.l2 y0 y1 y4 y5 y6 y8 hh =
  ((opLen false y1).bind fun v21 => (opBin .lss y8 v21).bind fun v22 => condK v22 ((zydh 3 y1 y8).bind fun v23 => (zyd1 0 v23).bind fun v24 => (zyd4 hh none v24).bind fun v25 => (opBin .neq v25 y6).bind fun v26 => zy6i v26 true ((zydh 3 y1 y8).bind fun v27 => (zyd1 1 v27).bind fun v28 => (zyd4 hh none v28).bind fun v29 => (opBin .neq v29 y6).bind fun v30 => zf0n.j0 y0 y1 y4 y5 y6 y8 v30 hh) (zf0n.j0 y0 y1 y4 y5 y6 y8 (.bool false) hh)) ((opBin .add y6 (.int .i64 1)).bind fun v49 => zf0n.l0 y0 y1 y4 y5 v49 hh)) :=
 (zyar gp zf0n.fn [true, true, false, true, false, false, true, false, false, true, true, false] (fun v h => zy5v h v) ⟨frame 145 [(0, y0), (1, y1), (4, y4), (5, y5), (6, y6), (8, y8)], hh⟩).trans (by kernel_rfl)
theorem zf0n.l0_eq (y0 : AV) (y1 : AV) (y4 : AV) (y5 : AV) (y6 : AV) (hh : Heap) : zf0n.l0 y0 y1 y4 y5 y6 hh =
  ((opLen false y0).bind fun v7 => (opBin .lss y6 v7).bind fun v8 => condK v8 ((opBin .add y6 (.int .i64 1)).bind fun v9 => zf0n.l1 y0 y1 y4 y5 y6 v9 hh) (zf0n.l3 y0 y1 y4 y5 (.int .i64 0) hh)) :=
 (zyar gp zf0n.fn [true, true, false, true, false] (fun v h => zy5v h v) ⟨frame 145 [(0, y0), (1, y1), (4, y4), (5, y5), (6, y6)], hh⟩).trans (by kernel_rfl)
theorem zf0n.l4_eq (y0 : AV) (y1 : AV) (y4 : AV) (y5 : AV) (y9 : AV) (y10 : AV) (hh : Heap) : zf0n.l4 y0 y1 y4 y5 y9 y10 hh =
  ((opBin .lss y10 y9).bind fun v52 => condK v52 ((zydh 3 y1 y9).bind fun v53 => (zyd4 hh (some 3) v53).bind fun v54 => (zydh 3 y1 y10).bind fun v55 => (zyd4 hh (some 3) v55).bind fun v56 => (byVal (callW gp) hh fid.zf1b [v54, v56]).bind fun v57 => (opUn .not v57).bind fun v58 => condK v58 ((zyd4 hh (some 3) y5).bind fun v59 => (zydh 3 y1 y9).bind fun v60 => (zyd1 0 v60).bind fun v61 => (zyd4 hh none v61).bind fun v62 => (zydh 6 y0 v62).bind fun v63 => (zyd4 hh (some 6) v63).bind fun v64 => (zydh 3 y1 y9).bind fun v65 => (zyd1 1 v65).bind fun v66 => (zyd4 hh none v66).bind fun v67 => (zydh 6 y0 v67).bind fun v68 => (zyd4 hh (some 6) v68).bind fun v69 => (zydh 3 y1 y10).bind fun v70 => (zyd1 0 v70).bind fun v71 => (zyd4 hh none v71).bind fun v72 => (zydh 6 y0 v72).bind fun v73 => (zyd4 hh (some 6) v73).bind fun v74 => (zydh 3 y1 y10).bind fun v75 => (zyd1 1 v75).bind fun v76 => (zyd4 hh none v76).bind fun v77 => (zydh 6 y0 v77).bind fun v78 => (zyd4 hh (some 6) v78).bind fun v79 => (byVal (callW gp) hh fid.zf0h [v64, v69, v74, v79]).bind fun v80 => (byVal (callW gp) hh fid.zf17 [v59, v80]).bind fun v81 => (zydm hh 3 y5 v81).bind fun h82 => (opBin .add y10 (.int .i64 1)).bind fun v83 => zf0n.l4 y0 y1 y4 y5 y9 v83 h82) ((opBin .add y10 (.int .i64 1)).bind fun v84 => zf0n.l4 y0 y1 y4 y5 y9 v84 hh)) ((opBin .add y9 (.int .i64 1)).bind fun v85 => zf0n.l3 y0 y1 y4 y5 v85 hh)) :=
 (zyar gp zf0n.fn [true, true, true, false, true, false, false, true, false, false, true, false] (fun v h => zy5v h v) ⟨frame 145 [(0, y0), (1, y1), (4, y4), (5, y5), (9, y9), (10, y10)], hh⟩).trans (by kernel_rfl)
theorem zf0n.l3_eq (y0 : AV) (y1 : AV) (y4 : AV) (y5 : AV) (y9 : AV) (hh : Heap) : zf0n.l3 y0 y1 y4 y5 y9 hh =
  ((opLen false y1).bind fun v50 => (opBin .lss y9 v50).bind fun v51 => condK v51 (zf0n.l4 y0 y1 y4 y5 y9 (.int .i64 0) hh) ((zyd4 hh (some 3) y5).bind fun v86 => (zydm hh 3 y4 v86).bind fun h87 => (zyd4 h87 (some 3) y4).bind fun v88 => zy5v h87 v88)) :=
 (zyar gp zf0n.fn [true, true, true, false, true, false] (fun v h => zy5v h v) ⟨frame 145 [(0, y0), (1, y1), (4, y4), (5, y5), (9, y9)], hh⟩).trans (by kernel_rfl)
theorem zf0n.eq (a0 : AV) (a1 : AV) : cv gp fid.zf0n [a0, a1] = zf0n.f a0 a1 :=
 (cv_eq gp fid.zf0n [a0, a1] zf0n.fn_eq).trans (by kernel_rfl)

noncomputable def zf0q.fn : AFun := (gp.fn fid.zf0q).getD default
theorem zf0q.fn_eq : gp.fn fid.zf0q = some zf0q.fn := by kernel_rfl
noncomputable def zf0q.l0 (y0 : AV) (y1 : AV) (y5 : AV) : Option AV := zyao gp zf0q.fn [true, true, false, true, false] (fun v h => zy5v h v) ⟨frame 26 [(0, y0), (1, y1), (5, y5)], []⟩
noncomputable def zf0q.f (a0 : AV) (a1 : AV) : Option AV :=
 (opLen false a0).bind fun v1 => (opLen false a1).bind fun v2 => (opBin .neq v1 v2).bind fun v3 => condK v3 (zy5v [] (.bool false)) (zf0q.l0 a0 a1 (.int .i64 0))
theorem zf0q.l0_eq (y0 : AV) (y1 : AV) (y5 : AV) : zf0q.l0 y0 y1 y5 =
  ((opLen false y0).bind fun v4 => (opBin .lss y5 v4).bind fun v5 => condK v5 ((zydh 1 y0 y5).bind fun v6 => (zyd4 [] none v6).bind fun v7 => (zydh 1 y1 y5).bind fun v8 => (zyd4 [] none v8).bind fun v9 => (opBin .neq v7 v9).bind fun v10 => condK v10 (zy5v [] (.bool false)) ((opBin .add y5 (.int .i64 1)).bind fun v11 => zf0q.l0 y0 y1 v11)) (zy5v [] (.bool true))) :=
 (zyar gp zf0q.fn [true, true, false, true, false] (fun v h => zy5v h v) ⟨frame 26 [(0, y0), (1, y1), (5, y5)], []⟩).trans (by kernel_rfl)
theorem zf0q.eq (a0 : AV) (a1 : AV) : cv gp fid.zf0q [a0, a1] = zf0q.f a0 a1 :=
 (cv_eq gp fid.zf0q [a0, a1] zf0q.fn_eq).trans (by kernel_rfl)

noncomputable def zf1b.fn : AFun := (gp.fn fid.zf1b).getD default
theorem zf1b.fn_eq : gp.fn fid.zf1b = some zf1b.fn := by kernel_rfl
noncomputable def zf1b.f (a0 : AV) (a1 : AV) : Option AV :=
 (opBox [] a0).bind fun r1 => (opBox r1.2 a1).bind fun r2 => (zyd1 0 r1.1).bind fun v3 => (zyd4 r2.2 none v3).bind fun v4 => (zyd1 0 r2.1).bind fun v5 => (zyd4 r2.2 none v5).bind fun v6 => (opBin .eql v4 v6).bind fun v7 => zy6i v7 false ((zyd1 0 r1.1).bind fun v8 => (zyd4 r2.2 none v8).bind fun v9 => (zyd1 1 r2.1).bind fun v10 => (zyd4 r2.2 none v10).bind fun v11 => (opBin .eql v9 v11).bind fun v12 => zy6i v12 false ((zyd1 1 r1.1).bind fun v13 => (zyd4 r2.2 none v13).bind fun v14 => (zyd1 0 r2.1).bind fun v15 => (zyd4 r2.2 none v15).bind fun v16 => (opBin .eql v14 v16).bind fun v17 => zy6i v17 false ((zyd1 1 r1.1).bind fun v18 => (zyd4 r2.2 none v18).bind fun v19 => (zyd1 1 r2.1).bind fun v20 => (zyd4 r2.2 none v20).bind fun v21 => (opBin .eql v19 v21).bind fun v22 => zy5v r2.2 v22) (zy5v r2.2 (.bool true))) (zy5v r2.2 (.bool true))) (zy5v r2.2 (.bool true))
theorem zf1b.eq (a0 : AV) (a1 : AV) : cv gp fid.zf1b [a0, a1] = zf1b.f a0 a1 :=
 (cv_eq gp fid.zf1b [a0, a1] zf1b.fn_eq).trans (by kernel_rfl)

end Go.Proofs.YtiblnpnfaadmcaaGreat.Am
