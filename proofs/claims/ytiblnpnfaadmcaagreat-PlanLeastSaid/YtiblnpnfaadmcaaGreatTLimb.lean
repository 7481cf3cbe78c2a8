import Derived.Test.YtiblnpnfaadmcaaGreatAmGp
set_option linter.unusedVariables false
set_option maxRecDepth 10000
set_option maxHeartbeats 0
namespace Go.Proofs.YtiblnpnfaadmcaaGreat.Am
open Go
/-! gusset gussetref01.Cmp -/
noncomputable def zf1k.fn : AFun := (gp.fn fid.zf1k).getD default
theorem zf1k.fn_eq : gp.fn fid.zf1k = some zf1k.fn := by kernel_rfl
noncomputable def zf1k.l0 (y0 : AV) (y1 : AV) (y5 : AV) : Option AV := zyao gp zf1k.fn [true, true, false, true, false] (fun v h => zy5v h v) ⟨frame 41 [(0, y0), (1, y1), (5, y5)], []⟩
noncomputable def zf1k.f (a0 : AV) (a1 : AV) : Option AV :=
 (opLen false a0).bind fun v1 => (opLen false a1).bind fun v2 => (opBin .neq v1 v2).bind fun v3 => condK v3 ((opLen false a0).bind fun v4 => (opLen false a1).bind fun v5 => (opBin .lss v4 v5).bind fun v6 => condK v6 (zy5v [] (.int .i64 (-1))) (zy5v [] (.int .i64 1))) ((opLen false a0).bind fun v7 => (opBin .sub v7 (.int .i64 1)).bind fun v8 => zf1k.l0 a0 a1 v8)
theorem zf1k.l0_eq (y0 : AV) (y1 : AV) (y5 : AV) : zf1k.l0 y0 y1 y5 =
  ((opBin .geq y5 (.int .i64 0)).bind fun v9 => condK v9 ((zydh 1 y0 y5).bind fun v10 => (zyd4 [] none v10).bind fun v11 => (zydh 1 y1 y5).bind fun v12 => (zyd4 [] none v12).bind fun v13 => (opBin .lss v11 v13).bind fun v14 => condK v14 (zy5v [] (.int .i64 (-1))) ((zydh 1 y0 y5).bind fun v15 => (zyd4 [] none v15).bind fun v16 => (zydh 1 y1 y5).bind fun v17 => (zyd4 [] none v17).bind fun v18 => (opBin .gtr v16 v18).bind fun v19 => condK v19 (zy5v [] (.int .i64 1)) ((opBin .sub y5 (.int .i64 1)).bind fun v20 => zf1k.l0 y0 y1 v20))) (zy5v [] (.int .i64 0))) :=
 (zyar gp zf1k.fn [true, true, false, true, false] (fun v h => zy5v h v) ⟨frame 41 [(0, y0), (1, y1), (5, y5)], []⟩).trans (by kernel_rfl)
theorem zf1k.eq (a0 : AV) (a1 : AV) : cv gp fid.zf1k [a0, a1] = zf1k.f a0 a1 :=
 (cv_eq gp fid.zf1k [a0, a1] zf1k.fn_eq).trans (by kernel_rfl)

noncomputable def zf1l.fn : AFun := (gp.fn fid.zf1l).getD default
theorem zf1l.fn_eq : gp.fn fid.zf1l = some zf1l.fn := by kernel_rfl
noncomputable def zf1l.l0 (y0 : AV) (y3 : AV) (y4 : AV) (hh : Heap) : Option AV := zyao gp zf1l.fn [true, true, false, true, false] (fun v h => zy5v h v) ⟨frame 43 [(0, y0), (3, y3), (4, y4)], hh⟩
noncomputable def zf1l.f (a0 : AV) : Option AV :=
 (opLen true a0).bind fun v1 => (opBin .add v1 (.int .i64 3)).bind fun v2 => (opBin .quo v2 (.int .i64 4)).bind fun v3 => (opMks [] 1 [nat .u64 0] v3 v3).bind fun r4 => zf1l.l0 a0 r4.1 (.int .i64 0) r4.2
theorem zf1l.l0_eq (y0 : AV) (y3 : AV) (y4 : AV) (hh : Heap) : zf1l.l0 y0 y3 y4 hh =
  ((opLen true y0).bind fun v5 => (opBin .lss y4 v5).bind fun v6 => condK v6 ((opLen true y0).bind fun v7 => (opBin .sub v7 (.int .i64 1)).bind fun v8 => (opBin .sub v8 y4).bind fun v9 => (opBin .quo y4 (.int .i64 4)).bind fun v10 => (opBin .quo y4 (.int .i64 4)).bind fun v11 => (zydh 1 y3 v11).bind fun v12 => (zyd4 hh none v12).bind fun v13 => (zydo y0 v9).bind fun v14 => (zyd0 .u64 v14).bind fun v15 => (opBin .rem y4 (.int .i64 4)).bind fun v16 => (opBin .mul v16 (.int .i64 8)).bind fun v17 => (zyd0 .u64 v17).bind fun v18 => (opBin .shl v15 v18).bind fun v19 => (opBin .add v13 v19).bind fun v20 => (zydh 1 y3 v10).bind fun v21 => (zydm hh 1 v21 v20).bind fun h22 => (opBin .add y4 (.int .i64 1)).bind fun v23 => zf1l.l0 y0 y3 v23 h22) ((callW gp fid.zf2d [y3] hh).bind fun r24 => zy5v r24.2 r24.1)) :=
 (zyar gp zf1l.fn [true, true, false, true, false] (fun v h => zy5v h v) ⟨frame 43 [(0, y0), (3, y3), (4, y4)], hh⟩).trans (by kernel_rfl)
theorem zf1l.eq (a0 : AV) : cv gp fid.zf1l [a0] = zf1l.f a0 :=
 (cv_eq gp fid.zf1l [a0] zf1l.fn_eq).trans (by kernel_rfl)

noncomputable def zf1n.fn : AFun := (gp.fn fid.zf1n).getD default
theorem zf1n.fn_eq : gp.fn fid.zf1n = some zf1n.fn := by kernel_rfl
noncomputable def zf1n.l1 (y0 : AV) (y1 : AV) (y5 : AV) (y6 : AV) (y7 : AV) (y8 : AV) (hh : Heap) : Option AV := zyao gp zf1n.fn [true, true, false, true, false, false, true, false, false, true, false, true, false] (fun v h => zy5v h v) ⟨frame 64 [(0, y0), (1, y1), (5, y5), (6, y6), (7, y7), (8, y8)], hh⟩
noncomputable def zf1n.l0 (y0 : AV) (y1 : AV) (y5 : AV) (y6 : AV) (hh : Heap) : Option AV := zyao gp zf1n.fn [true, true, false, true, false] (fun v h => zy5v h v) ⟨frame 64 [(0, y0), (1, y1), (5, y5), (6, y6)], hh⟩
noncomputable def zf1n.f (a0 : AV) (a1 : AV) : Option AV :=
 (opLen false a0).bind fun v1 => (opLen false a1).bind fun v2 => (opBin .add v1 v2).bind fun v3 => (opMks [] 1 [nat .u64 0] v3 v3).bind fun r4 => zf1n.l0 a0 a1 r4.1 (.int .i64 0) r4.2
theorem zf1n.l1_eq (y0 : AV) (y1 : AV) (y5 : AV) (y6 : AV) (y7 : AV) (y8 : AV) (hh : Heap) : zf1n.l1 y0 y1 y5 y6 y7 y8 hh =
  ((opLen false y1).bind fun v7 => (opBin .lss y8 v7).bind fun v8 => condK v8 ((zydh 1 y0 y6).bind fun v9 => (zyd4 hh none v9).bind fun v10 => (zydh 1 y1 y8).bind fun v11 => (zyd4 hh none v11).bind fun v12 => (opBin .mul v10 v12).bind fun v13 => (opBin .add y6 y8).bind fun v14 => (zydh 1 y5 v14).bind fun v15 => (zyd4 hh none v15).bind fun v16 => (opBin .add v13 v16).bind fun v17 => (opBin .add v17 y7).bind fun v18 => (opBin .add y6 y8).bind fun v19 => (opBin .rem v18 (nat .u64 4294967296)).bind fun v20 => (zydh 1 y5 v19).bind fun v21 => (zydm hh 1 v21 v20).bind fun h22 => (opBin .quo v18 (nat .u64 4294967296)).bind fun v23 => (opBin .add y8 (.int .i64 1)).bind fun v24 => zf1n.l1 y0 y1 y5 y6 v23 v24 h22) ((opLen false y1).bind fun v25 => (opBin .add y6 v25).bind fun v26 => (zydh 1 y5 v26).bind fun v27 => (zydm hh 1 v27 y7).bind fun h28 => (opBin .add y6 (.int .i64 1)).bind fun v29 => zf1n.l0 y0 y1 y5 v29 h28)) :=
 (zyar gp zf1n.fn [true, true, false, true, false, false, true, false, false, true, false, true, false] (fun v h => zy5v h v) ⟨frame 64 [(0, y0), (1, y1), (5, y5), (6, y6), (7, y7), (8, y8)], hh⟩).trans (by kernel_rfl)
theorem zf1n.l0_eq (y0 : AV) (y1 : AV) (y5 : AV) (y6 : AV) (hh : Heap) : zf1n.l0 y0 y1 y5 y6 hh =
  ((opLen false y0).bind fun v5 => (opBin .lss y6 v5).bind fun v6 => condK v6 (zf1n.l1 y0 y1 y5 y6 (nat .u64 0) (.int .i64 0) hh) ((callW gp fid.zf2d [y5] hh).bind fun r30 => zy5v r30.2 r30.1)) :=
 (zyar gp zf1n.fn [true, true, false, true, false] (fun v h => zy5v h v) ⟨frame 64 [(0, y0), (1, y1), (5, y5), (6, y6)], hh⟩).trans (by kernel_rfl)
theorem zf1n.eq (a0 : AV) (a1 : AV) : cv gp fid.zf1n [a0, a1] = zf1n.f a0 a1 :=
 (cv_eq gp fid.zf1n [a0, a1] zf1n.fn_eq).trans (by kernel_rfl)

noncomputable def zf22.fn : AFun := (gp.fn fid.zf22).getD default
theorem zf22.fn_eq : gp.fn fid.zf22 = some zf22.fn := by kernel_rfl
noncomputable def zf22.l0 (y0 : AV) (y1 : AV) (y6 : AV) (y7 : AV) (y8 : AV) (hh : Heap) : Option AV := zyao gp zf22.fn [true, true, true, false, true, false] (fun v h => zy5v h v) ⟨frame 56 [(0, y0), (1, y1), (6, y6), (7, y7), (8, y8)], hh⟩
noncomputable def zf22.f (a0 : AV) (a1 : AV) : Option AV :=
 (opLen false a0).bind fun v1 => (opMks [] 1 [nat .u64 0] v1 v1).bind fun r2 => (opLen false a0).bind fun v3 => (opBin .mul (.int .i64 32) v3).bind fun v4 => (opBin .sub v4 (.int .i64 1)).bind fun v5 => zf22.l0 a0 a1 r2.1 (.is 0 true []) v5 r2.2
theorem zf22.l0_eq (y0 : AV) (y1 : AV) (y6 : AV) (y7 : AV) (y8 : AV) (hh : Heap) : zf22.l0 y0 y1 y6 y7 y8 hh =
  ((opBin .geq y8 (.int .i64 0)).bind fun v6 => condK v6 ((opBin .quo y8 (.int .i64 32)).bind fun v7 => (zydh 1 y0 v7).bind fun v8 => (zyd4 hh none v8).bind fun v9 => (opBin .rem y8 (.int .i64 32)).bind fun v10 => (zyd0 .u64 v10).bind fun v11 => (opBin .shr v9 v11).bind fun v12 => (opBin .rem v12 (nat .u64 2)).bind fun v13 => (byVal (callW gp) hh fid.zf2m [y7, v13]).bind fun v14 => (byVal (callW gp) hh fid.zf1k [v14, y1]).bind fun v15 => (opBin .geq v15 (.int .i64 0)).bind fun v16 => condK v16 ((byVal (callW gp) hh fid.zf2n [v14, y1]).bind fun v17 => (opBin .quo y8 (.int .i64 32)).bind fun v18 => (opBin .quo y8 (.int .i64 32)).bind fun v19 => (zydh 1 y6 v19).bind fun v20 => (zyd4 hh none v20).bind fun v21 => (opBin .rem y8 (.int .i64 32)).bind fun v22 => (zyd0 .u64 v22).bind fun v23 => (opBin .shl (nat .u64 1) v23).bind fun v24 => (opBin .add v21 v24).bind fun v25 => (zydh 1 y6 v18).bind fun v26 => (zydm hh 1 v26 v25).bind fun h27 => (opBin .sub y8 (.int .i64 1)).bind fun v28 => zf22.l0 y0 y1 y6 v17 v28 h27) ((opBin .sub y8 (.int .i64 1)).bind fun v29 => zf22.l0 y0 y1 y6 v14 v29 hh)) ((callW gp fid.zf2d [y6] hh).bind fun r30 => zy5v r30.2 (.tup [r30.1, y7]))) :=
 (zyar gp zf22.fn [true, true, true, false, true, false] (fun v h => zy5v h v) ⟨frame 56 [(0, y0), (1, y1), (6, y6), (7, y7), (8, y8)], hh⟩).trans (by kernel_rfl)
theorem zf22.eq (a0 : AV) (a1 : AV) : cv gp fid.zf22 [a0, a1] = zf22.f a0 a1 :=
 (cv_eq gp fid.zf22 [a0, a1] zf22.fn_eq).trans (by kernel_rfl)

noncomputable def zf23.fn : AFun := (gp.fn fid.zf23).getD default
theorem zf23.fn_eq : gp.fn fid.zf23 = some zf23.fn := by kernel_rfl
noncomputable def zf23.l0 (y0 : AV) (y3 : AV) (y4 : AV) (hh : Heap) : Option AV := zyao gp zf23.fn [true, true, true, false, true, false] (fun v h => zy5v h v) ⟨frame 53 [(0, y0), (3, y3), (4, y4)], hh⟩
noncomputable def zf23.l1 (y3 : AV) (y5 : AV) (hh : Heap) : Option AV := zyao gp zf23.fn [true, true, true, true, true, false, false] (fun v h => zy5v h v) ⟨frame 53 [(3, y3), (5, y5)], hh⟩
noncomputable def zf23.f (a0 : AV) : Option AV :=
 (callW gp fid.zf2d [a0] []).bind fun r1 => (opLen false r1.1).bind fun v2 => (opBin .mul (.int .i64 4) v2).bind fun v3 => (opMks r1.2 1 [nat .u8 0] v3 v3).bind fun r4 => zf23.l0 r1.1 r4.1 (.int .i64 0) r4.2
theorem zf23.l0_eq (y0 : AV) (y3 : AV) (y4 : AV) (hh : Heap) : zf23.l0 y0 y3 y4 hh =
  ((opLen false y3).bind fun v5 => (opBin .lss y4 v5).bind fun v6 => condK v6 ((opLen false y3).bind fun v7 => (opBin .sub v7 (.int .i64 1)).bind fun v8 => (opBin .sub v8 y4).bind fun v9 => (opBin .quo y4 (.int .i64 4)).bind fun v10 => (zydh 1 y0 v10).bind fun v11 => (zyd4 hh none v11).bind fun v12 => (opBin .rem y4 (.int .i64 4)).bind fun v13 => (opBin .mul v13 (.int .i64 8)).bind fun v14 => (zyd0 .u64 v14).bind fun v15 => (opBin .shr v12 v15).bind fun v16 => (zyd0 .u8 v16).bind fun v17 => (zydh 1 y3 v9).bind fun v18 => (zydm hh 1 v18 v17).bind fun h19 => (opBin .add y4 (.int .i64 1)).bind fun v20 => zf23.l0 y0 y3 v20 h19) (zf23.l1 y3 (.int .i64 0) hh)) :=
 (zyar gp zf23.fn [true, true, true, false, true, false] (fun v h => zy5v h v) ⟨frame 53 [(0, y0), (3, y3), (4, y4)], hh⟩).trans (by kernel_rfl)
theorem zf23.l1_eq (y3 : AV) (y5 : AV) (hh : Heap) : zf23.l1 y3 y5 hh =
  ((opLen false y3).bind fun v21 => (opBin .lss y5 v21).bind fun v22 => zy6i v22 true ((zydh 1 y3 y5).bind fun v23 => (zyd4 hh none v23).bind fun v24 => (opBin .eql v24 (nat .u8 0)).bind fun v25 => condK v25 ((opBin .add y5 (.int .i64 1)).bind fun v26 => zf23.l1 y3 v26 hh) ((opSlc 1 y3 (some y5) none none).bind fun v27 => (opB2s hh v27).bind fun v28 => zy5v hh v28)) ((opSlc 1 y3 (some y5) none none).bind fun v29 => (opB2s hh v29).bind fun v30 => zy5v hh v30)) :=
 (zyar gp zf23.fn [true, true, true, true, true, false, false] (fun v h => zy5v h v) ⟨frame 53 [(3, y3), (5, y5)], hh⟩).trans (by kernel_rfl)
theorem zf23.eq (a0 : AV) : cv gp fid.zf23 [a0] = zf23.f a0 :=
 (cv_eq gp fid.zf23 [a0] zf23.fn_eq).trans (by kernel_rfl)

noncomputable def zf24.fn : AFun := (gp.fn fid.zf24).getD default
theorem zf24.fn_eq : gp.fn fid.zf24 = some zf24.fn := by kernel_rfl
noncomputable def zf24.l0 (y0 : AV) (y3 : AV) (y4 : AV) (hh : Heap) : Option AV := zyao gp zf24.fn [true, true, false, true, false] (fun v h => zy5v h v) ⟨frame 30 [(0, y0), (3, y3), (4, y4)], hh⟩
noncomputable def zf24.f (a0 : AV) : Option AV :=
 (opLen false a0).bind fun v1 => (opBin .mul (.int .i64 2) v1).bind fun v2 => (opMks [] 1 [nat .u64 0] (.int .i64 0) v2).bind fun r3 => zf24.l0 a0 r3.1 (.int .i64 0) r3.2
theorem zf24.l0_eq (y0 : AV) (y3 : AV) (y4 : AV) (hh : Heap) : zf24.l0 y0 y3 y4 hh =
  ((opLen false y0).bind fun v4 => (opBin .lss y4 v4).bind fun v5 => condK v5 ((zydh 1 y0 y4).bind fun v6 => (zyd4 hh none v6).bind fun v7 => (opBin .rem v7 (nat .u64 4294967296)).bind fun v8 => (zydh 1 y0 y4).bind fun v9 => (zyd4 hh none v9).bind fun v10 => (opBin .quo v10 (nat .u64 4294967296)).bind fun v11 => (zycy 1 2 [nat .u64 0] [(0, v8), (1, v11)]).bind fun v12 => (opApp hh 1 y3 v12).bind fun r13 => (opBin .add y4 (.int .i64 1)).bind fun v14 => zf24.l0 y0 r13.1 v14 r13.2) ((callW gp fid.zf2d [y3] hh).bind fun r15 => zy5v r15.2 r15.1)) :=
 (zyar gp zf24.fn [true, true, false, true, false] (fun v h => zy5v h v) ⟨frame 30 [(0, y0), (3, y3), (4, y4)], hh⟩).trans (by kernel_rfl)
theorem zf24.eq (a0 : AV) : cv gp fid.zf24 [a0] = zf24.f a0 :=
 (cv_eq gp fid.zf24 [a0] zf24.fn_eq).trans (by kernel_rfl)

noncomputable def zf2d.fn : AFun := (gp.fn fid.zf2d).getD default
theorem zf2d.fn_eq : gp.fn fid.zf2d = some zf2d.fn := by kernel_rfl
noncomputable def zf2d.l0 (y0 : AV) (y3 : AV) (hh : Heap) : Option (AV × Heap) := zyao gp zf2d.fn [true, true, false, false] (fun v h => some (v, h)) ⟨frame 21 [(0, y0), (3, y3)], hh⟩
noncomputable def zf2d.f (a0 : AV) (hh : Heap) : Option (AV × Heap) :=
 (opLen false a0).bind fun v1 => zf2d.l0 a0 v1 hh
theorem zf2d.l0_eq (y0 : AV) (y3 : AV) (hh : Heap) : zf2d.l0 y0 y3 hh =
  ((opBin .gtr y3 (.int .i64 0)).bind fun v2 => zy6i v2 true ((opBin .sub y3 (.int .i64 1)).bind fun v3 => (zydh 1 y0 v3).bind fun v4 => (zyd4 hh none v4).bind fun v5 => (opBin .eql v5 (nat .u64 0)).bind fun v6 => condK v6 ((opBin .sub y3 (.int .i64 1)).bind fun v7 => zf2d.l0 y0 v7 hh) ((opSlc 1 y0 none (some y3) none).bind fun v8 => some (v8, hh))) ((opSlc 1 y0 none (some y3) none).bind fun v9 => some (v9, hh))) :=
 (zyar gp zf2d.fn [true, true, false, false] (fun v h => some (v, h)) ⟨frame 21 [(0, y0), (3, y3)], hh⟩).trans (by kernel_rfl)
theorem zf2d.eq (a0 : AV) (hh : Heap) : callW gp fid.zf2d [a0] hh = zf2d.f a0 hh :=
 (zy2r gp fid.zf2d [a0] hh zf2d.fn_eq).trans (by kernel_rfl)

noncomputable def zf2l.fn : AFun := (gp.fn fid.zf2l).getD default
theorem zf2l.fn_eq : gp.fn fid.zf2l = some zf2l.fn := by kernel_rfl
noncomputable def zf2l.l0 (y0 : AV) (y1 : AV) (y5 : AV) : Option AV := zyao gp zf2l.fn [true, true, true, true, false, false] (fun v h => zy5v h v) ⟨frame 81 [(0, y0), (1, y1), (5, y5)], []⟩
noncomputable def zf2l.l2 (y0 : AV) (y1 : AV) (y5 : AV) : Option AV := zyao gp zf2l.fn [true, true, true, true, true, false, false, false, true, false, false, false] (fun v h => zy5v h v) ⟨frame 81 [(0, y0), (1, y1), (5, y5)], []⟩
noncomputable def zf2l.l3 (y0 : AV) (y1 : AV) (y5 : AV) : Option AV := zyao gp zf2l.fn [true, true, true, true, true, false, false, false, true, false, true, false, false] (fun v h => zy5v h v) ⟨frame 81 [(0, y0), (1, y1), (5, y5)], []⟩
noncomputable def zf2l.l1 (y0 : AV) (y1 : AV) (y5 : AV) : Option AV := zyao gp zf2l.fn [true, true, true, true, true, false, false] (fun v h => zy5v h v) ⟨frame 81 [(0, y0), (1, y1), (5, y5)], []⟩
noncomputable def zf2l.l4 (y1 : AV) (y5 : AV) (y7 : AV) : Option AV := zyao gp zf2l.fn [true, true, true, true, true, true, false, true, false] (fun v h => zy5v h v) ⟨frame 81 [(1, y1), (5, y5), (7, y7)], []⟩
noncomputable def zf2l.j0 (y0 : AV) (y1 : AV) (y5 : AV) : Option AV :=
 zf2l.l1 y0 y1 y5
noncomputable def zf2l.f (a0 : AV) (a1 : AV) : Option AV :=
 (opLen false a0).bind fun v1 => (opBin .eql v1 (.int .i64 0)).bind fun v2 => condK v2 (zy5v [] a1) ((opLen false a1).bind fun v3 => (opBin .eql v3 (.int .i64 0)).bind fun v4 => condK v4 (zy5v [] a0) (zf2l.l0 a0 a1 (.int .i64 0)))
theorem zf2l.l0_eq (y0 : AV) (y1 : AV) (y5 : AV) : zf2l.l0 y0 y1 y5 =
  ((zydh 1 y0 (.int .i64 0)).bind fun v5 => (zyd4 [] none v5).bind fun v6 => (opBin .rem v6 (nat .u64 2)).bind fun v7 => (opBin .eql v7 (nat .u64 0)).bind fun v8 => zy6i v8 true ((zydh 1 y1 (.int .i64 0)).bind fun v9 => (zyd4 [] none v9).bind fun v10 => (opBin .rem v10 (nat .u64 2)).bind fun v11 => (opBin .eql v11 (nat .u64 0)).bind fun v12 => condK v12 ((byVal (callW gp) [] fid.zf37 [y0]).bind fun v13 => (opExt 0 v13).bind fun v14 => (opExt 1 v13).bind fun v15 => (byVal (callW gp) [] fid.zf37 [y1]).bind fun v16 => (opExt 0 v16).bind fun v17 => (opExt 1 v16).bind fun v18 => (opBin .add y5 (.int .i64 1)).bind fun v19 => zf2l.l0 v14 v17 v19) (zf2l.j0 y0 y1 y5)) (zf2l.j0 y0 y1 y5)) :=
 (zyar gp zf2l.fn [true, true, true, true, false, false] (fun v h => zy5v h v) ⟨frame 81 [(0, y0), (1, y1), (5, y5)], []⟩).trans (by kernel_rfl)
theorem zf2l.l2_eq (y0 : AV) (y1 : AV) (y5 : AV) : zf2l.l2 y0 y1 y5 =
  ((zydh 1 y0 (.int .i64 0)).bind fun v22 => (zyd4 [] none v22).bind fun v23 => (opBin .rem v23 (nat .u64 2)).bind fun v24 => (opBin .eql v24 (nat .u64 0)).bind fun v25 => condK v25 ((byVal (callW gp) [] fid.zf37 [y0]).bind fun v26 => (opExt 0 v26).bind fun v27 => (opExt 1 v26).bind fun v28 => zf2l.l2 v27 y1 y5) (zf2l.l3 y0 y1 y5)) :=
 (zyar gp zf2l.fn [true, true, true, true, true, false, false, false, true, false, false, false] (fun v h => zy5v h v) ⟨frame 81 [(0, y0), (1, y1), (5, y5)], []⟩).trans (by kernel_rfl)
theorem zf2l.l3_eq (y0 : AV) (y1 : AV) (y5 : AV) : zf2l.l3 y0 y1 y5 =
  ((zydh 1 y1 (.int .i64 0)).bind fun v29 => (zyd4 [] none v29).bind fun v30 => (opBin .rem v30 (nat .u64 2)).bind fun v31 => (opBin .eql v31 (nat .u64 0)).bind fun v32 => condK v32 ((byVal (callW gp) [] fid.zf37 [y1]).bind fun v33 => (opExt 0 v33).bind fun v34 => (opExt 1 v33).bind fun v35 => zf2l.l3 y0 v34 y5) ((byVal (callW gp) [] fid.zf1k [y0, y1]).bind fun v36 => (opBin .lss v36 (.int .i64 0)).bind fun v37 => condK v37 ((byVal (callW gp) [] fid.zf2n [y1, y0]).bind fun v38 => zf2l.l1 v38 y0 y5) ((byVal (callW gp) [] fid.zf2n [y0, y1]).bind fun v39 => zf2l.l1 v39 y1 y5))) :=
 (zyar gp zf2l.fn [true, true, true, true, true, false, false, false, true, false, true, false, false] (fun v h => zy5v h v) ⟨frame 81 [(0, y0), (1, y1), (5, y5)], []⟩).trans (by kernel_rfl)
theorem zf2l.l1_eq (y0 : AV) (y1 : AV) (y5 : AV) : zf2l.l1 y0 y1 y5 =
  ((opLen false y0).bind fun v20 => (opBin .gtr v20 (.int .i64 0)).bind fun v21 => condK v21 (zf2l.l2 y0 y1 y5) (zf2l.l4 y1 y5 (.int .i64 0))) :=
 (zyar gp zf2l.fn [true, true, true, true, true, false, false] (fun v h => zy5v h v) ⟨frame 81 [(0, y0), (1, y1), (5, y5)], []⟩).trans (by kernel_rfl)
theorem zf2l.l4_eq (y1 : AV) (y5 : AV) (y7 : AV) : zf2l.l4 y1 y5 y7 =
  ((opBin .lss y7 y5).bind fun v40 => condK v40 ((byVal (callW gp) [] fid.zf2m [y1, (nat .u64 0)]).bind fun v41 => (opBin .add y7 (.int .i64 1)).bind fun v42 => zf2l.l4 v41 y5 v42) (zy5v [] y1)) :=
 (zyar gp zf2l.fn [true, true, true, true, true, true, false, true, false] (fun v h => zy5v h v) ⟨frame 81 [(1, y1), (5, y5), (7, y7)], []⟩).trans (by kernel_rfl)
theorem zf2l.eq (a0 : AV) (a1 : AV) : cv gp fid.zf2l [a0, a1] = zf2l.f a0 a1 :=
 (cv_eq gp fid.zf2l [a0, a1] zf2l.fn_eq).trans (by kernel_rfl)

noncomputable def zf2m.fn : AFun := (gp.fn fid.zf2m).getD default
theorem zf2m.fn_eq : gp.fn fid.zf2m = some zf2m.fn := by kernel_rfl
noncomputable def zf2m.l0 (y0 : AV) (y1 : AV) (y5 : AV) (y6 : AV) (hh : Heap) : Option AV := zyao gp zf2m.fn [true, true, false, true, false] (fun v h => zy5v h v) ⟨frame 39 [(0, y0), (1, y1), (5, y5), (6, y6)], hh⟩
noncomputable def zf2m.f (a0 : AV) (a1 : AV) : Option AV :=
 (opLen false a0).bind fun v1 => (opBin .add v1 (.int .i64 1)).bind fun v2 => (opMks [] 1 [nat .u64 0] v2 v2).bind fun r3 => zf2m.l0 a0 a1 r3.1 (.int .i64 0) r3.2
theorem zf2m.l0_eq (y0 : AV) (y1 : AV) (y5 : AV) (y6 : AV) (hh : Heap) : zf2m.l0 y0 y1 y5 y6 hh =
  ((opLen false y0).bind fun v4 => (opBin .lss y6 v4).bind fun v5 => condK v5 ((zydh 1 y0 y6).bind fun v6 => (zyd4 hh none v6).bind fun v7 => (opBin .mul (nat .u64 2) v7).bind fun v8 => (opBin .add v8 y1).bind fun v9 => (opBin .rem v9 (nat .u64 4294967296)).bind fun v10 => (zydh 1 y5 y6).bind fun v11 => (zydm hh 1 v11 v10).bind fun h12 => (opBin .quo v9 (nat .u64 4294967296)).bind fun v13 => (opBin .add y6 (.int .i64 1)).bind fun v14 => zf2m.l0 y0 v13 y5 v14 h12) ((opLen false y0).bind fun v15 => (zydh 1 y5 v15).bind fun v16 => (zydm hh 1 v16 y1).bind fun h17 => (callW gp fid.zf2d [y5] h17).bind fun r18 => zy5v r18.2 r18.1)) :=
 (zyar gp zf2m.fn [true, true, false, true, false] (fun v h => zy5v h v) ⟨frame 39 [(0, y0), (1, y1), (5, y5), (6, y6)], hh⟩).trans (by kernel_rfl)
theorem zf2m.eq (a0 : AV) (a1 : AV) : cv gp fid.zf2m [a0, a1] = zf2m.f a0 a1 :=
 (cv_eq gp fid.zf2m [a0, a1] zf2m.fn_eq).trans (by kernel_rfl)

noncomputable def zf2n.fn : AFun := (gp.fn fid.zf2n).getD default
theorem zf2n.fn_eq : gp.fn fid.zf2n = some zf2n.fn := by kernel_rfl
noncomputable def zf2n.l0 (y0 : AV) (y1 : AV) (y5 : AV) (y6 : AV) (y7 : AV) (hh : Heap) : Option AV := zyao gp zf2n.fn [true, true, true, false, true, false] (fun v h => zy5v h v) ⟨frame 47 [(0, y0), (1, y1), (5, y5), (6, y6), (7, y7)], hh⟩
noncomputable def zf2n.j0 (y0 : AV) (y1 : AV) (y5 : AV) (y7 : AV) (y8 : AV) (hh : Heap) : Option AV :=
 (zydh 1 y0 y7).bind fun v10 => (zyd4 hh none v10).bind fun v11 => (opBin .lss v11 y8).bind fun v12 => condK v12 ((opBin .add v11 (nat .u64 4294967296)).bind fun v13 => (opBin .sub v13 y8).bind fun v14 => (zydh 1 y5 y7).bind fun v15 => (zydm hh 1 v15 v14).bind fun h16 => (opBin .add y7 (.int .i64 1)).bind fun v20 => zf2n.l0 y0 y1 y5 (nat .u64 1) v20 h16) ((opBin .sub v11 y8).bind fun v17 => (zydh 1 y5 y7).bind fun v18 => (zydm hh 1 v18 v17).bind fun h19 => (opBin .add y7 (.int .i64 1)).bind fun v21 => zf2n.l0 y0 y1 y5 (nat .u64 0) v21 h19)
noncomputable def zf2n.f (a0 : AV) (a1 : AV) : Option AV :=
 (opLen false a0).bind fun v1 => (opMks [] 1 [nat .u64 0] v1 v1).bind fun r2 => zf2n.l0 a0 a1 r2.1 (nat .u64 0) (.int .i64 0) r2.2
theorem zf2n.l0_eq (y0 : AV) (y1 : AV) (y5 : AV) (y6 : AV) (y7 : AV) (hh : Heap) : zf2n.l0 y0 y1 y5 y6 y7 hh =
  ((opLen false y0).bind fun v3 => (opBin .lss y7 v3).bind fun v4 => condK v4 ((opLen false y1).bind fun v5 => (opBin .lss y7 v5).bind fun v6 => condK v6 ((zydh 1 y1 y7).bind fun v7 => (zyd4 hh none v7).bind fun v8 => (opBin .add y6 v8).bind fun v9 => zf2n.j0 y0 y1 y5 y7 v9 hh) (zf2n.j0 y0 y1 y5 y7 y6 hh)) ((callW gp fid.zf2d [y5] hh).bind fun r22 => zy5v r22.2 r22.1)) :=
 (zyar gp zf2n.fn [true, true, true, false, true, false] (fun v h => zy5v h v) ⟨frame 47 [(0, y0), (1, y1), (5, y5), (6, y6), (7, y7)], hh⟩).trans (by kernel_rfl)
theorem zf2n.eq (a0 : AV) (a1 : AV) : cv gp fid.zf2n [a0, a1] = zf2n.f a0 a1 :=
 (cv_eq gp fid.zf2n [a0, a1] zf2n.fn_eq).trans (by kernel_rfl)

noncomputable def zf2u.fn : AFun := (gp.fn fid.zf2u).getD default
theorem zf2u.fn_eq : gp.fn fid.zf2u = some zf2u.fn := by kernel_rfl
noncomputable def zf2u.f (a0 : AV) (a1 : AV) : Option AV :=
 (zycy 1 2 [.is 0 true []] [(0, a0), (1, a1)]).bind fun v1 => (byVal (callW gp) [] fid.zf3e [v1]).bind fun v2 => condK v2 (zy5v [] (.tup [(.int .i64 0), (.int .i64 5)])) ((callW gp fid.zf3g [a0] []).bind fun r3 => (callW gp fid.zf3g [a1] r3.2).bind fun r4 => (byVal (callW gp) r4.2 fid.zf3f [r3.1, r4.1]).bind fun v5 => zy5v r4.2 (.tup [v5, (.int .i64 0)]))
theorem zf2u.eq (a0 : AV) (a1 : AV) : cv gp fid.zf2u [a0, a1] = zf2u.f a0 a1 :=
 (cv_eq gp fid.zf2u [a0, a1] zf2u.fn_eq).trans (by kernel_rfl)

noncomputable def zf2v.fn : AFun := (gp.fn fid.zf2v).getD default
theorem zf2v.fn_eq : gp.fn fid.zf2v = some zf2v.fn := by kernel_rfl
noncomputable def zf2v.l0 (y1 : AV) (y6 : AV) (y19 : AV) (y20 : AV) (y21 : AV) (hh : Heap) : Option AV := zyao gp zf2v.fn [true, true, true, false, true, false] (fun v h => zy5v h v) ⟨frame 45 [(1, y1), (6, y6), (19, y19), (20, y20), (21, y21)], hh⟩
noncomputable def zf2v.f (a0 : AV) (a1 : AV) : Option AV :=
 (zycy 1 2 [.is 0 true []] [(0, a0), (1, a1)]).bind fun v1 => (byVal (callW gp) [] fid.zf3e [v1]).bind fun v2 => condK v2 (zy5v [] (.tup [(.is 0 true []), (.int .i64 5)])) ((opLen false a0).bind fun v3 => (opLen false a1).bind fun v4 => (opBin .add v3 v4).bind fun v5 => (opMks [] 1 [nat .u64 0] v5 v5).bind fun r6 => (opLen false a0).bind fun v7 => zf2v.l0 a1 r6.1 a0 v7 (.int .i64 0) r6.2)
theorem zf2v.l0_eq (y1 : AV) (y6 : AV) (y19 : AV) (y20 : AV) (y21 : AV) (hh : Heap) : zf2v.l0 y1 y6 y19 y20 y21 hh =
  ((opBin .lss y21 y20).bind fun v8 => condK v8 ((zydh 1 y19 y21).bind fun v9 => (zyd4 hh none v9).bind fun v10 => (opLen false y1).bind fun v11 => (opBin .add y21 v11).bind fun v12 => (opLen false y1).bind fun v13 => (opBin .add y21 v13).bind fun v14 => (opSlc 1 y6 (some y21) (some v14) none).bind fun v15 => (callW gp fid.zf3h [v15, y1, v10] hh).bind fun r16 => (zydh 1 y6 v12).bind fun v17 => (zydm r16.2 1 v17 r16.1).bind fun h18 => (opBin .add y21 (.int .i64 1)).bind fun v19 => zf2v.l0 y1 y6 y19 y20 v19 h18) ((callW gp fid.zf3g [y6] hh).bind fun r20 => zy5v r20.2 (.tup [r20.1, (.int .i64 0)]))) :=
 (zyar gp zf2v.fn [true, true, true, false, true, false] (fun v h => zy5v h v) ⟨frame 45 [(1, y1), (6, y6), (19, y19), (20, y20), (21, y21)], hh⟩).trans (by kernel_rfl)
theorem zf2v.eq (a0 : AV) (a1 : AV) : cv gp fid.zf2v [a0, a1] = zf2v.f a0 a1 :=
 (cv_eq gp fid.zf2v [a0, a1] zf2v.fn_eq).trans (by kernel_rfl)

noncomputable def zf2y.fn : AFun := (gp.fn fid.zf2y).getD default
theorem zf2y.fn_eq : gp.fn fid.zf2y = some zf2y.fn := by kernel_rfl
noncomputable def zf2y.f (a0 : AV) : Option AV :=
 (opBin .eql a0 (.str ⟨#[]⟩)).bind fun v1 => zy6i v1 false ((zydo a0 (.int .i64 0)).bind fun v2 => (opBin .neq v2 (nat .u8 0)).bind fun v3 => zy5v [] v3) (zy5v [] (.bool true))
theorem zf2y.eq (a0 : AV) : cv gp fid.zf2y [a0] = zf2y.f a0 :=
 (cv_eq gp fid.zf2y [a0] zf2y.fn_eq).trans (by kernel_rfl)

noncomputable def zf37.fn : AFun := (gp.fn fid.zf37).getD default
theorem zf37.fn_eq : gp.fn fid.zf37 = some zf37.fn := by kernel_rfl
noncomputable def zf37.l0 (y0 : AV) (y4 : AV) (y5 : AV) (y6 : AV) (hh : Heap) : Option AV := zyao gp zf37.fn [true, true, true, false, true, false] (fun v h => zy5v h v) ⟨frame 36 [(0, y0), (4, y4), (5, y5), (6, y6)], hh⟩
noncomputable def zf37.f (a0 : AV) : Option AV :=
 (opLen false a0).bind fun v1 => (opMks [] 1 [nat .u64 0] v1 v1).bind fun r2 => (opLen false a0).bind fun v3 => (opBin .sub v3 (.int .i64 1)).bind fun v4 => zf37.l0 a0 r2.1 (nat .u64 0) v4 r2.2
theorem zf37.l0_eq (y0 : AV) (y4 : AV) (y5 : AV) (y6 : AV) (hh : Heap) : zf37.l0 y0 y4 y5 y6 hh =
  ((opBin .geq y6 (.int .i64 0)).bind fun v5 => condK v5 ((opBin .mul y5 (nat .u64 4294967296)).bind fun v6 => (zydh 1 y0 y6).bind fun v7 => (zyd4 hh none v7).bind fun v8 => (opBin .add v6 v8).bind fun v9 => (opBin .quo v9 (nat .u64 2)).bind fun v10 => (zydh 1 y4 y6).bind fun v11 => (zydm hh 1 v11 v10).bind fun h12 => (opBin .rem v9 (nat .u64 2)).bind fun v13 => (opBin .sub y6 (.int .i64 1)).bind fun v14 => zf37.l0 y0 y4 v13 v14 h12) ((callW gp fid.zf2d [y4] hh).bind fun r15 => (opBin .eql y5 (nat .u64 1)).bind fun v16 => zy5v r15.2 (.tup [r15.1, v16]))) :=
 (zyar gp zf37.fn [true, true, true, false, true, false] (fun v h => zy5v h v) ⟨frame 36 [(0, y0), (4, y4), (5, y5), (6, y6)], hh⟩).trans (by kernel_rfl)
theorem zf37.eq (a0 : AV) : cv gp fid.zf37 [a0] = zf37.f a0 :=
 (cv_eq gp fid.zf37 [a0] zf37.fn_eq).trans (by kernel_rfl)

noncomputable def limb_Of.fn : AFun := (gp.fn fid.limb_Of).getD default
theorem limb_Of.fn_eq : gp.fn fid.limb_Of = some limb_Of.fn := by kernel_rfl
noncomputable def limb_Of.l0 (y0 : AV) (y4 : AV) (y25 : AV) (y26 : AV) (hh : Heap) : Option AV := zyao gp limb_Of.fn [true, true, true, false, true, false] (fun v h => zy5v h v) ⟨frame 50 [(0, y0), (4, y4), (25, y25), (26, y26)], hh⟩
noncomputable def limb_Of.j0 (y0 : AV) : Option AV :=
 (opLen true y0).bind fun v6 => (opBin .add v6 (.int .i64 8)).bind fun v7 => (opBin .sub v7 (.int .i64 1)).bind fun v8 => (opBin .quo v8 (.int .i64 8)).bind fun v9 => (opMks [] 1 [nat .u64 0] v9 v9).bind fun r10 => (opLen true y0).bind fun v11 => limb_Of.l0 y0 r10.1 v11 (.int .i64 0) r10.2
noncomputable def limb_Of.f (a0 : AV) : Option AV :=
 (opLen true a0).bind fun v1 => (opBin .gtr v1 (.int .i64 32000)).bind fun v2 => condK v2 (zy5v [] (.tup [(.is 0 true []), (.int .i64 5)])) ((opBin .neq a0 (.str ⟨#[]⟩)).bind fun v3 => zy6i v3 true ((zydo a0 (.int .i64 0)).bind fun v4 => (opBin .eql v4 (nat .u8 0)).bind fun v5 => condK v5 (zy5v [] (.tup [(.is 0 true []), (.int .i64 1)])) (limb_Of.j0 a0)) (limb_Of.j0 a0))
theorem limb_Of.l0_eq (y0 : AV) (y4 : AV) (y25 : AV) (y26 : AV) (hh : Heap) : limb_Of.l0 y0 y4 y25 y26 hh =
  ((opBin .lss y26 y25).bind fun v12 => condK v12 ((opBin .quo y26 (.int .i64 8)).bind fun v13 => (zydh 1 y4 v13).bind fun v14 => (zyd4 hh none v14).bind fun v15 => (opLen true y0).bind fun v16 => (opBin .sub v16 (.int .i64 1)).bind fun v17 => (opBin .sub v17 y26).bind fun v18 => (zydo y0 v18).bind fun v19 => (zyd0 .u64 v19).bind fun v20 => (opBin .rem y26 (.int .i64 8)).bind fun v21 => (opBin .mul (.int .i64 8) v21).bind fun v22 => (opBin .shl v20 v22).bind fun v23 => (opBin .or v15 v23).bind fun v24 => (zydh 1 y4 v13).bind fun v25 => (zydm hh 1 v25 v24).bind fun h26 => (opBin .add y26 (.int .i64 1)).bind fun v27 => limb_Of.l0 y0 y4 y25 v27 h26) (zy5v hh (.tup [y4, (.int .i64 0)]))) :=
 (zyar gp limb_Of.fn [true, true, true, false, true, false] (fun v h => zy5v h v) ⟨frame 50 [(0, y0), (4, y4), (25, y25), (26, y26)], hh⟩).trans (by kernel_rfl)
theorem limb_Of.eq (a0 : AV) : cv gp fid.limb_Of [a0] = limb_Of.f a0 :=
 (cv_eq gp fid.limb_Of [a0] limb_Of.fn_eq).trans (by kernel_rfl)

noncomputable def zf3e.fn : AFun := (gp.fn fid.zf3e).getD default
theorem zf3e.fn_eq : gp.fn fid.zf3e = some zf3e.fn := by kernel_rfl
noncomputable def zf3e.l0 (y5 : AV) (y6 : AV) (y7 : AV) : Option AV := zyao gp zf3e.fn [true, false, true, false] (fun v h => zy5v h v) ⟨frame 15 [(5, y5), (6, y6), (7, y7)], []⟩
noncomputable def zf3e.f (a0 : AV) : Option AV :=
 (opLen false a0).bind fun v1 => zf3e.l0 a0 v1 (.int .i64 0)
theorem zf3e.l0_eq (y5 : AV) (y6 : AV) (y7 : AV) : zf3e.l0 y5 y6 y7 =
  ((opBin .lss y7 y6).bind fun v2 => condK v2 ((zydh 1 y5 y7).bind fun v3 => (zyd4 [] none v3).bind fun v4 => (opLen false v4).bind fun v5 => (opBin .gtr v5 (.int .i64 4000)).bind fun v6 => condK v6 (zy5v [] (.bool true)) ((opBin .add y7 (.int .i64 1)).bind fun v7 => zf3e.l0 y5 y6 v7)) (zy5v [] (.bool false))) :=
 (zyar gp zf3e.fn [true, false, true, false] (fun v h => zy5v h v) ⟨frame 15 [(5, y5), (6, y6), (7, y7)], []⟩).trans (by kernel_rfl)
theorem zf3e.eq (a0 : AV) : cv gp fid.zf3e [a0] = zf3e.f a0 :=
 (cv_eq gp fid.zf3e [a0] zf3e.fn_eq).trans (by kernel_rfl)

noncomputable def zf3f.fn : AFun := (gp.fn fid.zf3f).getD default
theorem zf3f.fn_eq : gp.fn fid.zf3f = some zf3f.fn := by kernel_rfl
noncomputable def zf3f.l0 (y0 : AV) (y1 : AV) (y6 : AV) : Option AV := zyao gp zf3f.fn [true, true, false, true, false] (fun v h => zy5v h v) ⟨frame 35 [(0, y0), (1, y1), (6, y6)], []⟩
noncomputable def zf3f.f (a0 : AV) (a1 : AV) : Option AV :=
 (opLen false a0).bind fun v1 => (opLen false a1).bind fun v2 => (byVal (callW gp) [] fid.zf3t [v1, v2]).bind fun v3 => (opBin .neq v3 (.int .i64 0)).bind fun v4 => condK v4 (zy5v [] v3) ((opLen false a0).bind fun v5 => (opBin .sub v5 (.int .i64 1)).bind fun v6 => zf3f.l0 a0 a1 v6)
theorem zf3f.l0_eq (y0 : AV) (y1 : AV) (y6 : AV) : zf3f.l0 y0 y1 y6 =
  ((opBin .geq y6 (.int .i64 0)).bind fun v7 => condK v7 ((zydh 1 y0 y6).bind fun v8 => (zyd4 [] none v8).bind fun v9 => (zydh 1 y1 y6).bind fun v10 => (zyd4 [] none v10).bind fun v11 => (byVal (callW gp) [] fid.zf3u [v9, v11]).bind fun v12 => (opBin .neq v12 (.int .i64 0)).bind fun v13 => condK v13 (zy5v [] v12) ((opBin .sub y6 (.int .i64 1)).bind fun v14 => zf3f.l0 y0 y1 v14)) (zy5v [] (.int .i64 0))) :=
 (zyar gp zf3f.fn [true, true, false, true, false] (fun v h => zy5v h v) ⟨frame 35 [(0, y0), (1, y1), (6, y6)], []⟩).trans (by kernel_rfl)
theorem zf3f.eq (a0 : AV) (a1 : AV) : cv gp fid.zf3f [a0, a1] = zf3f.f a0 a1 :=
 (cv_eq gp fid.zf3f [a0, a1] zf3f.fn_eq).trans (by kernel_rfl)

noncomputable def zf3g.fn : AFun := (gp.fn fid.zf3g).getD default
theorem zf3g.fn_eq : gp.fn fid.zf3g = some zf3g.fn := by kernel_rfl
noncomputable def zf3g.l0 (y0 : AV) (y3 : AV) (hh : Heap) : Option (AV × Heap) := zyao gp zf3g.fn [true, true, false, false] (fun v h => some (v, h)) ⟨frame 22 [(0, y0), (3, y3)], hh⟩
noncomputable def zf3g.f (a0 : AV) (hh : Heap) : Option (AV × Heap) :=
 (opLen false a0).bind fun v1 => zf3g.l0 a0 v1 hh
theorem zf3g.l0_eq (y0 : AV) (y3 : AV) (hh : Heap) : zf3g.l0 y0 y3 hh =
  ((opBin .gtr y3 (.int .i64 0)).bind fun v2 => zy6i v2 true ((opBin .sub y3 (.int .i64 1)).bind fun v3 => (zydh 1 y0 v3).bind fun v4 => (zyd4 hh none v4).bind fun v5 => (opBin .eql v5 (nat .u64 0)).bind fun v6 => condK v6 ((opBin .sub y3 (.int .i64 1)).bind fun v7 => zf3g.l0 y0 v7 hh) ((opSlc 1 y0 none (some y3) (some y3)).bind fun v8 => some (v8, hh))) ((opSlc 1 y0 none (some y3) (some y3)).bind fun v9 => some (v9, hh))) :=
 (zyar gp zf3g.fn [true, true, false, false] (fun v h => some (v, h)) ⟨frame 22 [(0, y0), (3, y3)], hh⟩).trans (by kernel_rfl)
theorem zf3g.eq (a0 : AV) (hh : Heap) : callW gp fid.zf3g [a0] hh = zf3g.f a0 hh :=
 (zy2r gp fid.zf3g [a0] hh zf3g.fn_eq).trans (by kernel_rfl)

noncomputable def zf3h.fn : AFun := (gp.fn fid.zf3h).getD default
theorem zf3h.fn_eq : gp.fn fid.zf3h = some zf3h.fn := by kernel_rfl
noncomputable def zf3h.l0 (y0 : AV) (y2 : AV) (y7 : AV) (y13 : AV) (y14 : AV) (y15 : AV) (hh : Heap) : Option (AV × Heap) := zyao gp zf3h.fn [true, true, false, true, false] (fun v h => some (v, h)) ⟨frame 52 [(0, y0), (2, y2), (7, y7), (13, y13), (14, y14), (15, y15)], hh⟩
noncomputable def zf3h.f (a0 : AV) (a1 : AV) (a2 : AV) (hh : Heap) : Option (AV × Heap) :=
 (opLen false a1).bind fun v1 => zf3h.l0 a0 a2 (nat .u64 0) a1 v1 (.int .i64 0) hh
theorem zf3h.l0_eq (y0 : AV) (y2 : AV) (y7 : AV) (y13 : AV) (y14 : AV) (y15 : AV) (hh : Heap) : zf3h.l0 y0 y2 y7 y13 y14 y15 hh =
  ((opBin .lss y15 y14).bind fun v2 => condK v2 ((zydh 1 y13 y15).bind fun v3 => (zyd4 hh none v3).bind fun v4 => (byVal (callW gp) hh fid.zf3v [y2, v4]).bind fun v5 => (opExt 0 v5).bind fun v6 => (opExt 1 v5).bind fun v7 => (zydh 1 y0 y15).bind fun v8 => (zyd4 hh none v8).bind fun v9 => (zyco v7 v9 (nat .u64 0)).bind fun v10 => (opExt 0 v10).bind fun v11 => (opExt 1 v10).bind fun v12 => (opBin .add v6 v12).bind fun v13 => (zyco v11 y7 (nat .u64 0)).bind fun v14 => (opExt 0 v14).bind fun v15 => (opExt 1 v14).bind fun v16 => (zydh 1 y0 y15).bind fun v17 => (zydm hh 1 v17 v15).bind fun h18 => (opBin .add v13 v16).bind fun v19 => (opBin .add y15 (.int .i64 1)).bind fun v20 => zf3h.l0 y0 y2 v19 y13 y14 v20 h18) (some (y7, hh))) :=
 (zyar gp zf3h.fn [true, true, false, true, false] (fun v h => some (v, h)) ⟨frame 52 [(0, y0), (2, y2), (7, y7), (13, y13), (14, y14), (15, y15)], hh⟩).trans (by kernel_rfl)
theorem zf3h.eq (a0 : AV) (a1 : AV) (a2 : AV) (hh : Heap) : callW gp fid.zf3h [a0, a1, a2] hh = zf3h.f a0 a1 a2 hh :=
 (zy2r gp fid.zf3h [a0, a1, a2] hh zf3h.fn_eq).trans (by kernel_rfl)

noncomputable def zf3i.fn : AFun := (gp.fn fid.zf3i).getD default
theorem zf3i.fn_eq : gp.fn fid.zf3i = some zf3i.fn := by kernel_rfl
noncomputable def zf3i.l0 (y0 : AV) (y4 : AV) (y5 : AV) (y29 : AV) (y30 : AV) (hh : Heap) : Option AV := zyao gp zf3i.fn [true, true, true, true, true, true, false, true, false] (fun v h => zy5v h v) ⟨frame 52 [(0, y0), (4, y4), (5, y5), (29, y29), (30, y30)], hh⟩
noncomputable def zf3i.f (a0 : AV) : Option AV :=
 (zycy 1 1 [.is 0 true []] [(0, a0)]).bind fun v1 => (byVal (callW gp) [] fid.zf3e [v1]).bind fun v2 => condK v2 (zy5v [] (.tup [(.str ⟨#[]⟩), (.int .i64 5)])) ((callW gp fid.zf3g [a0] []).bind fun r3 => (opLen false r3.1).bind fun v4 => (opBin .eql v4 (.int .i64 0)).bind fun v5 => condK v5 (zy5v r3.2 (.tup [(.str ⟨#[]⟩), (.int .i64 0)])) ((opLen false r3.1).bind fun v6 => (opBin .mul v6 (.int .i64 8)).bind fun v7 => (opLen false r3.1).bind fun v8 => (opBin .sub v8 (.int .i64 1)).bind fun v9 => (zydh 1 r3.1 v9).bind fun v10 => (zyd4 r3.2 none v10).bind fun v11 => (byVal (callW gp) r3.2 fid.zf3x [v11]).bind fun v12 => (opBin .quo v12 (.int .i64 8)).bind fun v13 => (opBin .sub v7 v13).bind fun v14 => (opMks r3.2 1 [nat .u8 0] v14 v14).bind fun r15 => zf3i.l0 r3.1 v14 r15.1 v14 (.int .i64 0) r15.2))
theorem zf3i.l0_eq (y0 : AV) (y4 : AV) (y5 : AV) (y29 : AV) (y30 : AV) (hh : Heap) : zf3i.l0 y0 y4 y5 y29 y30 hh =
  ((opBin .lss y30 y29).bind fun v16 => condK v16 ((opBin .sub y4 (.int .i64 1)).bind fun v17 => (opBin .sub v17 y30).bind fun v18 => (opBin .quo y30 (.int .i64 8)).bind fun v19 => (zydh 1 y0 v19).bind fun v20 => (zyd4 hh none v20).bind fun v21 => (opBin .rem y30 (.int .i64 8)).bind fun v22 => (opBin .mul (.int .i64 8) v22).bind fun v23 => (opBin .shr v21 v23).bind fun v24 => (zyd0 .u8 v24).bind fun v25 => (zydh 1 y5 v18).bind fun v26 => (zydm hh 1 v26 v25).bind fun h27 => (opBin .add y30 (.int .i64 1)).bind fun v28 => zf3i.l0 y0 y4 y5 y29 v28 h27) ((opB2s hh y5).bind fun v29 => zy5v hh (.tup [v29, (.int .i64 0)]))) :=
 (zyar gp zf3i.fn [true, true, true, true, true, true, false, true, false] (fun v h => zy5v h v) ⟨frame 52 [(0, y0), (4, y4), (5, y5), (29, y29), (30, y30)], hh⟩).trans (by kernel_rfl)
theorem zf3i.eq (a0 : AV) : cv gp fid.zf3i [a0] = zf3i.f a0 :=
 (cv_eq gp fid.zf3i [a0] zf3i.fn_eq).trans (by kernel_rfl)

noncomputable def zf3n.fn : AFun := (gp.fn fid.zf3n).getD default
theorem zf3n.fn_eq : gp.fn fid.zf3n = some zf3n.fn := by kernel_rfl
noncomputable def zf3n.l0 (y0 : AV) (y1 : AV) (y5 : AV) (y6 : AV) (y7 : AV) (hh : Heap) : Option AV := zyao gp zf3n.fn [true, true, true, false, true, false] (fun v h => zy5v h v) ⟨frame 50 [(0, y0), (1, y1), (5, y5), (6, y6), (7, y7)], hh⟩
noncomputable def zf3n.j1 (y0 : AV) (y1 : AV) (y5 : AV) (y6 : AV) (y7 : AV) (hh : Heap) : Option AV :=
 (opBin .rem y6 (nat .u64 4294967296)).bind fun v18 => (zydh 1 y5 y7).bind fun v19 => (zydm hh 1 v19 v18).bind fun h20 => (opBin .quo y6 (nat .u64 4294967296)).bind fun v21 => (opBin .add y7 (.int .i64 1)).bind fun v22 => zf3n.l0 y0 y1 y5 v21 v22 h20
noncomputable def zf3n.j0 (y0 : AV) (y1 : AV) (y5 : AV) (y6 : AV) (y7 : AV) (hh : Heap) : Option AV :=
 (opLen false y1).bind fun v13 => (opBin .lss y7 v13).bind fun v14 => condK v14 ((zydh 1 y1 y7).bind fun v15 => (zyd4 hh none v15).bind fun v16 => (opBin .add y6 v16).bind fun v17 => zf3n.j1 y0 y1 y5 v17 y7 hh) (zf3n.j1 y0 y1 y5 y6 y7 hh)
noncomputable def zf3n.f (a0 : AV) (a1 : AV) : Option AV :=
 (opLen false a0).bind fun v1 => (opLen false a1).bind fun v2 => (opMm true [v1, v2]).bind fun v3 => (opBin .add v3 (.int .i64 1)).bind fun v4 => (opMks [] 1 [nat .u64 0] v4 v4).bind fun r5 => zf3n.l0 a0 a1 r5.1 (nat .u64 0) (.int .i64 0) r5.2
theorem zf3n.l0_eq (y0 : AV) (y1 : AV) (y5 : AV) (y6 : AV) (y7 : AV) (hh : Heap) : zf3n.l0 y0 y1 y5 y6 y7 hh =
  ((opLen false y5).bind fun v6 => (opBin .lss y7 v6).bind fun v7 => condK v7 ((opLen false y0).bind fun v8 => (opBin .lss y7 v8).bind fun v9 => condK v9 ((zydh 1 y0 y7).bind fun v10 => (zyd4 hh none v10).bind fun v11 => (opBin .add y6 v11).bind fun v12 => zf3n.j0 y0 y1 y5 v12 y7 hh) (zf3n.j0 y0 y1 y5 y6 y7 hh)) ((callW gp fid.zf2d [y5] hh).bind fun r23 => zy5v r23.2 r23.1)) :=
 (zyar gp zf3n.fn [true, true, true, false, true, false] (fun v h => zy5v h v) ⟨frame 50 [(0, y0), (1, y1), (5, y5), (6, y6), (7, y7)], hh⟩).trans (by kernel_rfl)
theorem zf3n.eq (a0 : AV) (a1 : AV) : cv gp fid.zf3n [a0, a1] = zf3n.f a0 a1 :=
 (cv_eq gp fid.zf3n [a0, a1] zf3n.fn_eq).trans (by kernel_rfl)

noncomputable def zf3s.fn : AFun := (gp.fn fid.zf3s).getD default
theorem zf3s.fn_eq : gp.fn fid.zf3s = some zf3s.fn := by kernel_rfl
noncomputable def zf3s.l1 (y9 : AV) (y10 : AV) (y11 : AV) (y12 : AV) (y13 : AV) (y14 : AV) (y15 : AV) (y16 : AV) (hh : Heap) : Option AV := zyao gp zf3s.fn [true, true, true, true, true, true, true, true, false, true, false, false, true, false, false, true, true, true, true, false, false] (fun v h => zy5v h v) ⟨frame 144 [(9, y9), (10, y10), (11, y11), (12, y12), (13, y13), (14, y14), (15, y15), (16, y16)], hh⟩
noncomputable def zf3s.l0 (y9 : AV) (y10 : AV) (y11 : AV) (y12 : AV) (y13 : AV) (y14 : AV) (hh : Heap) : Option AV := zyao gp zf3s.fn [true, true, true, true, true, true, true, true, false, true, false] (fun v h => zy5v h v) ⟨frame 144 [(9, y9), (10, y10), (11, y11), (12, y12), (13, y13), (14, y14)], hh⟩
noncomputable def zf3s.f (a0 : AV) (a1 : AV) : Option AV :=
 (zycy 1 2 [.is 0 true []] [(0, a0), (1, a1)]).bind fun v1 => (byVal (callW gp) [] fid.zf3e [v1]).bind fun v2 => condK v2 (zy5v [] (.tup [(.is 0 true []), (.is 0 true []), (.int .i64 5)])) ((callW gp fid.zf3g [a0] []).bind fun r3 => (callW gp fid.zf3g [a1] r3.2).bind fun r4 => (opLen false r4.1).bind fun v5 => (opBin .eql v5 (.int .i64 0)).bind fun v6 => condK v6 (zy5v r4.2 (.tup [(.is 0 true []), (.is 0 true []), (.int .i64 3)])) ((byVal (callW gp) r4.2 fid.zf3f [r3.1, r4.1]).bind fun v7 => (opBin .lss v7 (.int .i64 0)).bind fun v8 => condK v8 ((zycy 1 0 [nat .u64 0] []).bind fun v9 => (opApp r4.2 1 v9 r3.1).bind fun r10 => zy5v r10.2 (.tup [(.is 0 true []), r10.1, (.int .i64 0)])) ((opLen false r4.1).bind fun v11 => (opBin .eql v11 (.int .i64 1)).bind fun v12 => condK v12 ((zydh 1 r4.1 (.int .i64 0)).bind fun v13 => (zyd4 r4.2 none v13).bind fun v14 => (byVal (callW gp) r4.2 fid.zf49 [r3.1, v14]).bind fun v15 => (opExt 0 v15).bind fun v16 => (opExt 1 v15).bind fun v17 => (zycy 1 1 [nat .u64 0] [(0, v17)]).bind fun v18 => (callW gp fid.zf3g [v18] r4.2).bind fun r19 => zy5v r19.2 (.tup [v16, r19.1, (.int .i64 0)])) ((opLen false r4.1).bind fun v20 => (opBin .sub v20 (.int .i64 1)).bind fun v21 => (zydh 1 r4.1 v21).bind fun v22 => (zyd4 r4.2 none v22).bind fun v23 => (byVal (callW gp) r4.2 fid.zf3x [v23]).bind fun v24 => (callW gp fid.zf4a [r3.1, v24] r4.2).bind fun r25 => (callW gp fid.zf4a [r4.1, v24] r25.2).bind fun r26 => (callW gp fid.zf3g [r26.1] r26.2).bind fun r27 => (opLen false r27.1).bind fun v28 => (opLen false r25.1).bind fun v29 => (opBin .sub v29 v28).bind fun v30 => (opMks r27.2 1 [nat .u64 0] v30 v30).bind fun r31 => (opLen false r31.1).bind fun v32 => (opBin .sub v32 (.int .i64 1)).bind fun v33 => zf3s.l0 v24 r25.1 r27.1 v28 r31.1 v33 r31.2))))
theorem zf3s.l1_eq (y9 : AV) (y10 : AV) (y11 : AV) (y12 : AV) (y13 : AV) (y14 : AV) (y15 : AV) (y16 : AV) (hh : Heap) : zf3s.l1 y9 y10 y11 y12 y13 y14 y15 y16 hh =
  ((callW gp fid.zf3g [y15] hh).bind fun r57 => (callW gp fid.zf3g [y16] r57.2).bind fun r58 => (byVal (callW gp) r58.2 fid.zf3f [r57.1, r58.1]).bind fun v59 => (opBin .lss v59 (.int .i64 0)).bind fun v60 => condK v60 ((zydh 1 y13 y14).bind fun v61 => (zyd4 r58.2 none v61).bind fun v62 => (opBin .sub v62 (nat .u64 1)).bind fun v63 => (zydh 1 y13 y14).bind fun v64 => (zydm r58.2 1 v64 v63).bind fun h65 => (callW gp fid.zf4c [y16, y11] h65).bind fun r66 => zf3s.l1 y9 y10 y11 y12 y13 y14 y15 y16 r66.2) ((callW gp fid.zf4c [y15, y16] r58.2).bind fun r67 => (opBin .sub y14 (.int .i64 1)).bind fun v68 => zf3s.l0 y9 y10 y11 y12 y13 v68 r67.2)) :=
 (zyar gp zf3s.fn [true, true, true, true, true, true, true, true, false, true, false, false, true, false, false, true, true, true, true, false, false] (fun v h => zy5v h v) ⟨frame 144 [(9, y9), (10, y10), (11, y11), (12, y12), (13, y13), (14, y14), (15, y15), (16, y16)], hh⟩).trans (by kernel_rfl)
theorem zf3s.l0_eq (y9 : AV) (y10 : AV) (y11 : AV) (y12 : AV) (y13 : AV) (y14 : AV) (hh : Heap) : zf3s.l0 y9 y10 y11 y12 y13 y14 hh =
  ((opBin .geq y14 (.int .i64 0)).bind fun v34 => condK v34 ((opBin .add y14 y12).bind fun v35 => (opBin .add v35 (.int .i64 1)).bind fun v36 => (opSlc 1 y10 (some y14) (some v36) none).bind fun v37 => (zydh 1 v37 y12).bind fun v38 => (zyd4 hh none v38).bind fun v39 => (opBin .sub y12 (.int .i64 1)).bind fun v40 => (zydh 1 v37 v40).bind fun v41 => (zyd4 hh none v41).bind fun v42 => (opBin .sub y12 (.int .i64 1)).bind fun v43 => (zydh 1 y11 v43).bind fun v44 => (zyd4 hh none v44).bind fun v45 => (byVal (callW gp) hh fid.zf4b [v39, v42, v45]).bind fun v46 => (zydh 1 y13 y14).bind fun v47 => (zydm hh 1 v47 v46).bind fun h48 => (opBin .add y12 (.int .i64 1)).bind fun v49 => (opMks h48 1 [nat .u64 0] v49 v49).bind fun r50 => (opSlc 1 r50.1 none (some y12) none).bind fun v51 => (zydh 1 y13 y14).bind fun v52 => (zyd4 r50.2 none v52).bind fun v53 => (callW gp fid.zf3h [v51, y11, v53] r50.2).bind fun r54 => (zydh 1 r50.1 y12).bind fun v55 => (zydm r54.2 1 v55 r54.1).bind fun h56 => zf3s.l1 y9 y10 y11 y12 y13 y14 v37 r50.1 h56) ((callW gp fid.zf3g [y13] hh).bind fun r69 => (callW gp fid.zf4d [y10, y9] r69.2).bind fun r70 => zy5v r70.2 (.tup [r69.1, r70.1, (.int .i64 0)]))) :=
 (zyar gp zf3s.fn [true, true, true, true, true, true, true, true, false, true, false] (fun v h => zy5v h v) ⟨frame 144 [(9, y9), (10, y10), (11, y11), (12, y12), (13, y13), (14, y14)], hh⟩).trans (by kernel_rfl)
theorem zf3s.eq (a0 : AV) (a1 : AV) : cv gp fid.zf3s [a0, a1] = zf3s.f a0 a1 :=
 (cv_eq gp fid.zf3s [a0, a1] zf3s.fn_eq).trans (by kernel_rfl)

noncomputable def zf3t.fn : AFun := (gp.fn fid.zf3t).getD default
theorem zf3t.fn_eq : gp.fn fid.zf3t = some zf3t.fn := by kernel_rfl
noncomputable def zf3t.f (a0 : AV) (a1 : AV) : Option AV :=
 (byVal (callW gp) [] fid.zf4e [a0]).bind fun v1 => (byVal (callW gp) [] fid.zf4e [a1]).bind fun v2 => condK v1 (condK v2 (zy5v [] (.int .i64 0)) (zy5v [] (.int .i64 (-1)))) (condK v2 (zy5v [] (.int .i64 1)) ((opBin .lss a0 a1).bind fun v3 => condK v3 (zy5v [] (.int .i64 (-1))) ((opBin .gtr a0 a1).bind fun v4 => condK v4 (zy5v [] (.int .i64 1)) (zy5v [] (.int .i64 0)))))
theorem zf3t.eq (a0 : AV) (a1 : AV) : cv gp fid.zf3t [a0, a1] = zf3t.f a0 a1 :=
 (cv_eq gp fid.zf3t [a0, a1] zf3t.fn_eq).trans (by kernel_rfl)

noncomputable def zf3u.fn : AFun := (gp.fn fid.zf3u).getD default
theorem zf3u.fn_eq : gp.fn fid.zf3u = some zf3u.fn := by kernel_rfl
noncomputable def zf3u.f (a0 : AV) (a1 : AV) : Option AV :=
 (byVal (callW gp) [] fid.zf4f [a0]).bind fun v1 => (byVal (callW gp) [] fid.zf4f [a1]).bind fun v2 => condK v1 (condK v2 (zy5v [] (.int .i64 0)) (zy5v [] (.int .i64 (-1)))) (condK v2 (zy5v [] (.int .i64 1)) ((opBin .lss a0 a1).bind fun v3 => condK v3 (zy5v [] (.int .i64 (-1))) ((opBin .gtr a0 a1).bind fun v4 => condK v4 (zy5v [] (.int .i64 1)) (zy5v [] (.int .i64 0)))))
theorem zf3u.eq (a0 : AV) (a1 : AV) : cv gp fid.zf3u [a0, a1] = zf3u.f a0 a1 :=
 (cv_eq gp fid.zf3u [a0, a1] zf3u.fn_eq).trans (by kernel_rfl)

noncomputable def zf3v.fn : AFun := (gp.fn fid.zf3v).getD default
theorem zf3v.fn_eq : gp.fn fid.zf3v = some zf3v.fn := by kernel_rfl
noncomputable def zf3v.f (a0 : AV) (a1 : AV) : Option AV :=
 (opBin .and a0 (nat .u64 4294967295)).bind fun v1 => (opBin .shr a0 (nat .u64 32)).bind fun v2 => (opBin .and a1 (nat .u64 4294967295)).bind fun v3 => (opBin .shr a1 (nat .u64 32)).bind fun v4 => (opBin .mul v1 v3).bind fun v5 => (opBin .mul v2 v3).bind fun v6 => (opBin .shr v5 (nat .u64 32)).bind fun v7 => (opBin .add v6 v7).bind fun v8 => (opBin .and v8 (nat .u64 4294967295)).bind fun v9 => (opBin .shr v8 (nat .u64 32)).bind fun v10 => (opBin .mul v1 v4).bind fun v11 => (opBin .add v9 v11).bind fun v12 => (opBin .mul v2 v4).bind fun v13 => (opBin .add v13 v10).bind fun v14 => (opBin .shr v12 (nat .u64 32)).bind fun v15 => (opBin .add v14 v15).bind fun v16 => (opBin .mul a0 a1).bind fun v17 => zy5v [] (.tup [v16, v17])
theorem zf3v.eq (a0 : AV) (a1 : AV) : cv gp fid.zf3v [a0, a1] = zf3v.f a0 a1 :=
 (cv_eq gp fid.zf3v [a0, a1] zf3v.fn_eq).trans (by kernel_rfl)

noncomputable def zf3x.fn : AFun := (gp.fn fid.zf3x).getD default
theorem zf3x.fn_eq : gp.fn fid.zf3x = some zf3x.fn := by kernel_rfl
noncomputable def zf3x.f (a0 : AV) : Option AV :=
 (byVal (callW gp) [] fid.zf4g [a0]).bind fun v1 => (opBin .sub (.int .i64 64) v1).bind fun v2 => zy5v [] v2
theorem zf3x.eq (a0 : AV) : cv gp fid.zf3x [a0] = zf3x.f a0 :=
 (cv_eq gp fid.zf3x [a0] zf3x.fn_eq).trans (by kernel_rfl)

noncomputable def zf49.fn : AFun := (gp.fn fid.zf49).getD default
theorem zf49.fn_eq : gp.fn fid.zf49 = some zf49.fn := by kernel_rfl
noncomputable def zf49.l0 (y0 : AV) (y1 : AV) (y4 : AV) (y5 : AV) (y6 : AV) (hh : Heap) : Option AV := zyao gp zf49.fn [true, true, false, true, false] (fun v h => zy5v h v) ⟨frame 33 [(0, y0), (1, y1), (4, y4), (5, y5), (6, y6)], hh⟩
noncomputable def zf49.f (a0 : AV) (a1 : AV) : Option AV :=
 (opLen false a0).bind fun v1 => (opMks [] 1 [nat .u64 0] v1 v1).bind fun r2 => (opLen false a0).bind fun v3 => (opBin .sub v3 (.int .i64 1)).bind fun v4 => zf49.l0 a0 a1 r2.1 (nat .u64 0) v4 r2.2
theorem zf49.l0_eq (y0 : AV) (y1 : AV) (y4 : AV) (y5 : AV) (y6 : AV) (hh : Heap) : zf49.l0 y0 y1 y4 y5 y6 hh =
  ((opBin .geq y6 (.int .i64 0)).bind fun v5 => condK v5 ((zydh 1 y0 y6).bind fun v6 => (zyd4 hh none v6).bind fun v7 => (byVal (callW gp) hh fid.zf4o [y5, v7, y1]).bind fun v8 => (opExt 0 v8).bind fun v9 => (opExt 1 v8).bind fun v10 => (zydh 1 y4 y6).bind fun v11 => (zydm hh 1 v11 v9).bind fun h12 => (opBin .sub y6 (.int .i64 1)).bind fun v13 => zf49.l0 y0 y1 y4 v10 v13 h12) ((callW gp fid.zf3g [y4] hh).bind fun r14 => zy5v r14.2 (.tup [r14.1, y5]))) :=
 (zyar gp zf49.fn [true, true, false, true, false] (fun v h => zy5v h v) ⟨frame 33 [(0, y0), (1, y1), (4, y4), (5, y5), (6, y6)], hh⟩).trans (by kernel_rfl)
theorem zf49.eq (a0 : AV) (a1 : AV) : cv gp fid.zf49 [a0, a1] = zf49.f a0 a1 :=
 (cv_eq gp fid.zf49 [a0, a1] zf49.fn_eq).trans (by kernel_rfl)

noncomputable def zf4a.fn : AFun := (gp.fn fid.zf4a).getD default
theorem zf4a.fn_eq : gp.fn fid.zf4a = some zf4a.fn := by kernel_rfl
noncomputable def zf4a.l0 (y1 : AV) (y5 : AV) (y12 : AV) (y13 : AV) (y14 : AV) (hh : Heap) : Option (AV × Heap) := zyao gp zf4a.fn [true, true, false, true, false] (fun v h => some (v, h)) ⟨frame 38 [(1, y1), (5, y5), (12, y12), (13, y13), (14, y14)], hh⟩
noncomputable def zf4a.f (a0 : AV) (a1 : AV) (hh : Heap) : Option (AV × Heap) :=
 (opLen false a0).bind fun v1 => (opBin .add v1 (.int .i64 1)).bind fun v2 => (opMks hh 1 [nat .u64 0] v2 v2).bind fun r3 => (opLen false a0).bind fun v4 => zf4a.l0 a1 r3.1 a0 v4 (.int .i64 0) r3.2
theorem zf4a.l0_eq (y1 : AV) (y5 : AV) (y12 : AV) (y13 : AV) (y14 : AV) (hh : Heap) : zf4a.l0 y1 y5 y12 y13 y14 hh =
  ((opBin .lss y14 y13).bind fun v5 => condK v5 ((zydh 1 y12 y14).bind fun v6 => (zyd4 hh none v6).bind fun v7 => (zydh 1 y5 y14).bind fun v8 => (zyd4 hh none v8).bind fun v9 => (opBin .shl v7 y1).bind fun v10 => (opBin .or v9 v10).bind fun v11 => (zydh 1 y5 y14).bind fun v12 => (zydm hh 1 v12 v11).bind fun h13 => (opBin .add y14 (.int .i64 1)).bind fun v14 => (opBin .sub (.int .i64 64) y1).bind fun v15 => (opBin .shr v7 v15).bind fun v16 => (zydh 1 y5 v14).bind fun v17 => (zydm h13 1 v17 v16).bind fun h18 => (opBin .add y14 (.int .i64 1)).bind fun v19 => zf4a.l0 y1 y5 y12 y13 v19 h18) (some (y5, hh))) :=
 (zyar gp zf4a.fn [true, true, false, true, false] (fun v h => some (v, h)) ⟨frame 38 [(1, y1), (5, y5), (12, y12), (13, y13), (14, y14)], hh⟩).trans (by kernel_rfl)
theorem zf4a.eq (a0 : AV) (a1 : AV) (hh : Heap) : callW gp fid.zf4a [a0, a1] hh = zf4a.f a0 a1 hh :=
 (zy2r gp fid.zf4a [a0, a1] hh zf4a.fn_eq).trans (by kernel_rfl)

noncomputable def zf4b.fn : AFun := (gp.fn fid.zf4b).getD default
theorem zf4b.fn_eq : gp.fn fid.zf4b = some zf4b.fn := by kernel_rfl
noncomputable def zf4b.f (a0 : AV) (a1 : AV) (a2 : AV) : Option AV :=
 (opBin .geq a0 a2).bind fun v1 => condK v1 (zy5v [] (nat .u64 18446744073709551615)) ((byVal (callW gp) [] fid.zf4o [a0, a1, a2]).bind fun v2 => (opExt 0 v2).bind fun v3 => (opExt 1 v2).bind fun v4 => zy5v [] v3)
theorem zf4b.eq (a0 : AV) (a1 : AV) (a2 : AV) : cv gp fid.zf4b [a0, a1, a2] = zf4b.f a0 a1 a2 :=
 (cv_eq gp fid.zf4b [a0, a1, a2] zf4b.fn_eq).trans (by kernel_rfl)

noncomputable def zf4c.fn : AFun := (gp.fn fid.zf4c).getD default
theorem zf4c.fn_eq : gp.fn fid.zf4c = some zf4c.fn := by kernel_rfl
noncomputable def zf4c.l0 (y0 : AV) (y1 : AV) (y5 : AV) (y9 : AV) (y10 : AV) (hh : Heap) : Option (AV × Heap) := zyao gp zf4c.fn [true, true, false, true, false] (fun v h => some (v, h)) ⟨frame 36 [(0, y0), (1, y1), (5, y5), (9, y9), (10, y10)], hh⟩
noncomputable def zf4c.j0 (y0 : AV) (y1 : AV) (y5 : AV) (y6 : AV) (y7 : AV) (y9 : AV) (y10 : AV) (hh : Heap) : Option (AV × Heap) :=
 (zydh 1 y0 y6).bind fun v7 => (zyd4 hh none v7).bind fun v8 => (zydq v8 y7 y5).bind fun v9 => (opExt 0 v9).bind fun v10 => (opExt 1 v9).bind fun v11 => (zydh 1 y0 y6).bind fun v12 => (zydm hh 1 v12 v10).bind fun h13 => (opBin .add y10 (.int .i64 1)).bind fun v14 => zf4c.l0 y0 y1 v11 y9 v14 h13
noncomputable def zf4c.f (a0 : AV) (a1 : AV) (hh : Heap) : Option (AV × Heap) :=
 (opLen false a0).bind fun v1 => zf4c.l0 a0 a1 (nat .u64 0) v1 (.int .i64 0) hh
theorem zf4c.l0_eq (y0 : AV) (y1 : AV) (y5 : AV) (y9 : AV) (y10 : AV) (hh : Heap) : zf4c.l0 y0 y1 y5 y9 y10 hh =
  ((opBin .lss y10 y9).bind fun v2 => condK v2 ((opLen false y1).bind fun v3 => (opBin .lss y10 v3).bind fun v4 => condK v4 ((zydh 1 y1 y10).bind fun v5 => (zyd4 hh none v5).bind fun v6 => zf4c.j0 y0 y1 y5 y10 v6 y9 y10 hh) (zf4c.j0 y0 y1 y5 y10 (nat .u64 0) y9 y10 hh)) (some (y5, hh))) :=
 (zyar gp zf4c.fn [true, true, false, true, false] (fun v h => some (v, h)) ⟨frame 36 [(0, y0), (1, y1), (5, y5), (9, y9), (10, y10)], hh⟩).trans (by kernel_rfl)
theorem zf4c.eq (a0 : AV) (a1 : AV) (hh : Heap) : callW gp fid.zf4c [a0, a1] hh = zf4c.f a0 a1 hh :=
 (zy2r gp fid.zf4c [a0, a1] hh zf4c.fn_eq).trans (by kernel_rfl)

noncomputable def zf4d.fn : AFun := (gp.fn fid.zf4d).getD default
theorem zf4d.fn_eq : gp.fn fid.zf4d = some zf4d.fn := by kernel_rfl
noncomputable def zf4d.l0 (y0 : AV) (y1 : AV) (y5 : AV) (y11 : AV) (y12 : AV) (y13 : AV) (hh : Heap) : Option (AV × Heap) := zyao gp zf4d.fn [true, true, false, true, false] (fun v h => some (v, h)) ⟨frame 46 [(0, y0), (1, y1), (5, y5), (11, y11), (12, y12), (13, y13)], hh⟩
noncomputable def zf4d.f (a0 : AV) (a1 : AV) (hh : Heap) : Option (AV × Heap) :=
 (opLen false a0).bind fun v1 => (opMks hh 1 [nat .u64 0] v1 v1).bind fun r2 => (opLen false a0).bind fun v3 => zf4d.l0 a0 a1 r2.1 a0 v3 (.int .i64 0) r2.2
theorem zf4d.l0_eq (y0 : AV) (y1 : AV) (y5 : AV) (y11 : AV) (y12 : AV) (y13 : AV) (hh : Heap) : zf4d.l0 y0 y1 y5 y11 y12 y13 hh =
  ((opBin .lss y13 y12).bind fun v4 => condK v4 ((zydh 1 y11 y13).bind fun v5 => (zyd4 hh none v5).bind fun v6 => (opBin .shr v6 y1).bind fun v7 => (zydh 1 y5 y13).bind fun v8 => (zydm hh 1 v8 v7).bind fun h9 => (opBin .add y13 (.int .i64 1)).bind fun v10 => (opLen false y0).bind fun v11 => (opBin .lss v10 v11).bind fun v12 => condK v12 ((zydh 1 y5 y13).bind fun v13 => (zyd4 h9 none v13).bind fun v14 => (opBin .add y13 (.int .i64 1)).bind fun v15 => (zydh 1 y0 v15).bind fun v16 => (zyd4 h9 none v16).bind fun v17 => (opBin .sub (.int .i64 64) y1).bind fun v18 => (opBin .shl v17 v18).bind fun v19 => (opBin .or v14 v19).bind fun v20 => (zydh 1 y5 y13).bind fun v21 => (zydm h9 1 v21 v20).bind fun h22 => (opBin .add y13 (.int .i64 1)).bind fun v23 => zf4d.l0 y0 y1 y5 y11 y12 v23 h22) ((opBin .add y13 (.int .i64 1)).bind fun v24 => zf4d.l0 y0 y1 y5 y11 y12 v24 h9)) ((callW gp fid.zf3g [y5] hh).bind fun r25 => some (r25.1, r25.2))) :=
 (zyar gp zf4d.fn [true, true, false, true, false] (fun v h => some (v, h)) ⟨frame 46 [(0, y0), (1, y1), (5, y5), (11, y11), (12, y12), (13, y13)], hh⟩).trans (by kernel_rfl)
theorem zf4d.eq (a0 : AV) (a1 : AV) (hh : Heap) : callW gp fid.zf4d [a0, a1] hh = zf4d.f a0 a1 hh :=
 (zy2r gp fid.zf4d [a0, a1] hh zf4d.fn_eq).trans (by kernel_rfl)

noncomputable def zf4e.fn : AFun := (gp.fn fid.zf4e).getD default
theorem zf4e.fn_eq : gp.fn fid.zf4e = some zf4e.fn := by kernel_rfl
noncomputable def zf4e.f (a0 : AV) : Option AV :=
 (opBin .neq a0 a0).bind fun v1 => zy5v [] v1
theorem zf4e.eq (a0 : AV) : cv gp fid.zf4e [a0] = zf4e.f a0 :=
 (cv_eq gp fid.zf4e [a0] zf4e.fn_eq).trans (by kernel_rfl)

noncomputable def zf4f.fn : AFun := (gp.fn fid.zf4f).getD default
theorem zf4f.fn_eq : gp.fn fid.zf4f = some zf4f.fn := by kernel_rfl
noncomputable def zf4f.f (a0 : AV) : Option AV :=
 (opBin .neq a0 a0).bind fun v1 => zy5v [] v1
theorem zf4f.eq (a0 : AV) : cv gp fid.zf4f [a0] = zf4f.f a0 :=
 (cv_eq gp fid.zf4f [a0] zf4f.fn_eq).trans (by kernel_rfl)

noncomputable def zf4g.fn : AFun := (gp.fn fid.zf4g).getD default
theorem zf4g.fn_eq : gp.fn fid.zf4g = some zf4g.fn := by kernel_rfl
noncomputable def zf4g.j2 (y0 : AV) (y2 : AV) : Option AV :=
 (zyd0 .u8 y0).bind fun v9 => (zydo (.str ⟨#[0, 1, 2, 2, 3, 3, 3, 3, 4, 4, 4, 4, 4, 4, 4, 4, 5, 5, 5, 5, 5, 5, 5, 5, 5, 5, 5, 5, 5, 5, 5, 5, 6, 6, 6, 6, 6, 6, 6, 6, 6, 6, 6, 6, 6, 6, 6, 6, 6, 6, 6, 6, 6, 6, 6, 6, 6, 6, 6, 6, 6, 6, 6, 6, 7, 7, 7, 7, 7, 7, 7, 7, 7, 7, 7, 7, 7, 7, 7, 7, 7, 7, 7, 7, 7, 7, 7, 7, 7, 7, 7, 7, 7, 7, 7, 7, 7, 7, 7, 7, 7, 7, 7, 7, 7, 7, 7, 7, 7, 7, 7, 7, 7, 7, 7, 7, 7, 7, 7, 7, 7, 7, 7, 7, 7, 7, 7, 7, 8, 8, 8, 8, 8, 8, 8, 8, 8, 8, 8, 8, 8, 8, 8, 8, 8, 8, 8, 8, 8, 8, 8, 8, 8, 8, 8, 8, 8, 8, 8, 8, 8, 8, 8, 8, 8, 8, 8, 8, 8, 8, 8, 8, 8, 8, 8, 8, 8, 8, 8, 8, 8, 8, 8, 8, 8, 8, 8, 8, 8, 8, 8, 8, 8, 8, 8, 8, 8, 8, 8, 8, 8, 8, 8, 8, 8, 8, 8, 8, 8, 8, 8, 8, 8, 8, 8, 8, 8, 8, 8, 8, 8, 8, 8, 8, 8, 8, 8, 8, 8, 8, 8, 8, 8, 8, 8, 8, 8, 8, 8, 8, 8, 8, 8, 8, 8, 8, 8, 8, 8, 8, 8, 8, 8, 8, 8, 8]⟩) v9).bind fun v10 => (zyd0 .i64 v10).bind fun v11 => (opBin .add y2 v11).bind fun v12 => zy5v [] v12
noncomputable def zf4g.j1 (y0 : AV) (y2 : AV) : Option AV :=
 (opBin .geq y0 (nat .u64 256)).bind fun v6 => condK v6 ((opBin .shr y0 (nat .u64 8)).bind fun v7 => (opBin .add y2 (.int .i64 8)).bind fun v8 => zf4g.j2 v7 v8) (zf4g.j2 y0 y2)
noncomputable def zf4g.j0 (y0 : AV) (y2 : AV) : Option AV :=
 (opBin .geq y0 (nat .u64 65536)).bind fun v3 => condK v3 ((opBin .shr y0 (nat .u64 16)).bind fun v4 => (opBin .add y2 (.int .i64 16)).bind fun v5 => zf4g.j1 v4 v5) (zf4g.j1 y0 y2)
noncomputable def zf4g.f (a0 : AV) : Option AV :=
 (opBin .geq a0 (nat .u64 4294967296)).bind fun v1 => condK v1 ((opBin .shr a0 (nat .u64 32)).bind fun v2 => zf4g.j0 v2 (.int .i64 32)) (zf4g.j0 a0 (.int .i64 0))
theorem zf4g.eq (a0 : AV) : cv gp fid.zf4g [a0] = zf4g.f a0 :=
 (cv_eq gp fid.zf4g [a0] zf4g.fn_eq).trans (by kernel_rfl)

noncomputable def zf4o.fn : AFun := (gp.fn fid.zf4o).getD default
theorem zf4o.fn_eq : gp.fn fid.zf4o = some zf4o.fn := by kernel_rfl
noncomputable def zf4o.l0 (y2 : AV) (y8 : AV) (y9 : AV) (y10 : AV) (y11 : AV) (y13 : AV) (y14 : AV) (y15 : AV) (y16 : AV) : Option AV := zyao gp zf4o.fn [true, true, true, true, true, true, true, true, true, true, true, true, true, true, false, false] (fun v h => zy5v h v) ⟨frame 135 [(2, y2), (8, y8), (9, y9), (10, y10), (11, y11), (13, y13), (14, y14), (15, y15), (16, y16)], []⟩
noncomputable def zf4o.l1 (y2 : AV) (y8 : AV) (y9 : AV) (y10 : AV) (y14 : AV) (y15 : AV) (y16 : AV) (y17 : AV) (y18 : AV) : Option AV := zyao gp zf4o.fn [true, true, true, true, true, true, true, true, true, true, true, true, true, true, true, true, true, true, false, false] (fun v h => zy5v h v) ⟨frame 135 [(2, y2), (8, y8), (9, y9), (10, y10), (14, y14), (15, y15), (16, y16), (17, y17), (18, y18)], []⟩
noncomputable def zf4o.j3 (y2 : AV) (y8 : AV) (y14 : AV) (y15 : AV) (y17 : AV) (y18 : AV) : Option AV :=
 (opBin .mul y15 (nat .u64 4294967296)).bind fun v44 => (opBin .add v44 y18).bind fun v45 => (opBin .mul y17 (nat .u64 4294967296)).bind fun v46 => (opBin .add v46 y14).bind fun v47 => (opBin .mul y18 y2).bind fun v48 => (opBin .sub v47 v48).bind fun v49 => (opBin .shr v49 y8).bind fun v50 => zy5v [] (.tup [v45, v50])
noncomputable def zf4o.j1 (y2 : AV) (y8 : AV) (y9 : AV) (y10 : AV) (y11 : AV) (y13 : AV) (y14 : AV) (y15 : AV) : Option AV :=
 (opBin .mul y11 (nat .u64 4294967296)).bind fun v29 => (opBin .add v29 y13).bind fun v30 => (opBin .mul y15 y2).bind fun v31 => (opBin .sub v30 v31).bind fun v32 => (opBin .quo v32 y9).bind fun v33 => (opBin .mul v33 y9).bind fun v34 => (opBin .sub v32 v34).bind fun v35 => zf4o.l1 y2 y8 y9 y10 y14 y15 v35 v32 v33
noncomputable def zf4o.j0 (y2 : AV) (y8 : AV) (y9 : AV) (y10 : AV) (y11 : AV) (y13 : AV) (y14 : AV) (y15 : AV) (y16 : AV) : Option AV :=
 (opBin .sub y15 (nat .u64 1)).bind fun v26 => (opBin .add y16 y9).bind fun v27 => (opBin .geq v27 (nat .u64 4294967296)).bind fun v28 => condK v28 (zf4o.j1 y2 y8 y9 y10 y11 y13 y14 v26) (zf4o.l0 y2 y8 y9 y10 y11 y13 y14 v26 v27)
noncomputable def zf4o.j2 (y2 : AV) (y8 : AV) (y9 : AV) (y10 : AV) (y14 : AV) (y15 : AV) (y16 : AV) (y17 : AV) (y18 : AV) : Option AV :=
 (opBin .sub y18 (nat .u64 1)).bind fun v41 => (opBin .add y16 y9).bind fun v42 => (opBin .geq v42 (nat .u64 4294967296)).bind fun v43 => condK v43 (zf4o.j3 y2 y8 y14 y15 y17 v41) (zf4o.l1 y2 y8 y9 y10 y14 y15 v42 y17 v41)
noncomputable def zf4o.f (a0 : AV) (a1 : AV) (a2 : AV) : Option AV :=
 (opBin .eql a2 (nat .u64 0)).bind fun v1 => condK v1 (none) ((opBin .leq a2 a0).bind fun v2 => condK v2 (none) ((opBin .eql a0 (nat .u64 0)).bind fun v3 => condK v3 ((opBin .quo a1 a2).bind fun v4 => (opBin .rem a1 a2).bind fun v5 => zy5v [] (.tup [v4, v5])) ((byVal (callW gp) [] fid.zf3x [a2]).bind fun v6 => (zyd0 .u64 v6).bind fun v7 => (opBin .shl a2 v7).bind fun v8 => (opBin .shr v8 (nat .u64 32)).bind fun v9 => (opBin .and v8 (nat .u64 4294967295)).bind fun v10 => (opBin .shl a0 v7).bind fun v11 => (opBin .sub (nat .u64 64) v7).bind fun v12 => (opBin .shr a1 v12).bind fun v13 => (opBin .or v11 v13).bind fun v14 => (opBin .shl a1 v7).bind fun v15 => (opBin .shr v15 (nat .u64 32)).bind fun v16 => (opBin .and v15 (nat .u64 4294967295)).bind fun v17 => (opBin .quo v14 v9).bind fun v18 => (opBin .mul v18 v9).bind fun v19 => (opBin .sub v14 v19).bind fun v20 => zf4o.l0 v8 v7 v9 v10 v14 v16 v17 v18 v20)))
theorem zf4o.l0_eq (y2 : AV) (y8 : AV) (y9 : AV) (y10 : AV) (y11 : AV) (y13 : AV) (y14 : AV) (y15 : AV) (y16 : AV) : zf4o.l0 y2 y8 y9 y10 y11 y13 y14 y15 y16 =
  ((opBin .geq y15 (nat .u64 4294967296)).bind fun v21 => zy6i v21 false ((opBin .mul y15 y10).bind fun v22 => (opBin .mul (nat .u64 4294967296) y16).bind fun v23 => (opBin .add v23 y13).bind fun v24 => (opBin .gtr v22 v24).bind fun v25 => condK v25 (zf4o.j0 y2 y8 y9 y10 y11 y13 y14 y15 y16) (zf4o.j1 y2 y8 y9 y10 y11 y13 y14 y15)) (zf4o.j0 y2 y8 y9 y10 y11 y13 y14 y15 y16)) :=
 (zyar gp zf4o.fn [true, true, true, true, true, true, true, true, true, true, true, true, true, true, false, false] (fun v h => zy5v h v) ⟨frame 135 [(2, y2), (8, y8), (9, y9), (10, y10), (11, y11), (13, y13), (14, y14), (15, y15), (16, y16)], []⟩).trans (by kernel_rfl)
theorem zf4o.l1_eq (y2 : AV) (y8 : AV) (y9 : AV) (y10 : AV) (y14 : AV) (y15 : AV) (y16 : AV) (y17 : AV) (y18 : AV) : zf4o.l1 y2 y8 y9 y10 y14 y15 y16 y17 y18 =
  ((opBin .geq y18 (nat .u64 4294967296)).bind fun v36 => zy6i v36 false ((opBin .mul y18 y10).bind fun v37 => (opBin .mul (nat .u64 4294967296) y16).bind fun v38 => (opBin .add v38 y14).bind fun v39 => (opBin .gtr v37 v39).bind fun v40 => condK v40 (zf4o.j2 y2 y8 y9 y10 y14 y15 y16 y17 y18) (zf4o.j3 y2 y8 y14 y15 y17 y18)) (zf4o.j2 y2 y8 y9 y10 y14 y15 y16 y17 y18)) :=
 (zyar gp zf4o.fn [true, true, true, true, true, true, true, true, true, true, true, true, true, true, true, true, true, true, false, false] (fun v h => zy5v h v) ⟨frame 135 [(2, y2), (8, y8), (9, y9), (10, y10), (14, y14), (15, y15), (16, y16), (17, y17), (18, y18)], []⟩).trans (by kernel_rfl)
theorem zf4o.eq (a0 : AV) (a1 : AV) (a2 : AV) : cv gp fid.zf4o [a0, a1, a2] = zf4o.f a0 a1 a2 :=
 (cv_eq gp fid.zf4o [a0, a1, a2] zf4o.fn_eq).trans (by kernel_rfl)

noncomputable def zf4s.fn : AFun := (gp.fn fid.zf4s).getD default
theorem zf4s.fn_eq : gp.fn fid.zf4s = some zf4s.fn := by kernel_rfl
noncomputable def zf4s.l0 (y0 : AV) (y1 : AV) (y6 : AV) (y7 : AV) (y8 : AV) (y26 : AV) (y27 : AV) (hh : Heap) : Option AV := zyao gp zf4s.fn [true, true, true, true, true, true, false, true, false] (fun v h => zy5v h v) ⟨frame 49 [(0, y0), (1, y1), (6, y6), (7, y7), (8, y8), (26, y26), (27, y27)], hh⟩
noncomputable def zf4s.j0 (y0 : AV) (y1 : AV) : Option AV :=
 (opLen false y0).bind fun v6 => (opBin .add v6 (.int .i64 1)).bind fun v7 => (opMks [] 1 [nat .u64 0] v7 v7).bind fun r8 => (opLen false r8.1).bind fun v9 => zf4s.l0 y0 y1 r8.1 (nat .u64 0) (.fn fid.zf4u []) v9 (.int .i64 0) r8.2
noncomputable def zf4s.f (a0 : AV) (a1 : AV) : Option AV :=
 (zycy 1 2 [.is 0 true []] [(0, a0), (1, a1)]).bind fun v1 => (byVal (callW gp) [] fid.zf3e [v1]).bind fun v2 => condK v2 (zy5v [] (.tup [(.is 0 true []), (.int .i64 5)])) ((opLen false a0).bind fun v3 => (opLen false a1).bind fun v4 => (opBin .lss v3 v4).bind fun v5 => condK v5 (zf4s.j0 a1 a0) (zf4s.j0 a0 a1))
theorem zf4s.l0_eq (y0 : AV) (y1 : AV) (y6 : AV) (y7 : AV) (y8 : AV) (y26 : AV) (y27 : AV) (hh : Heap) : zf4s.l0 y0 y1 y6 y7 y8 y26 y27 hh =
  ((opBin .lss y27 y26).bind fun v10 => condK v10 (zy2i (callW gp) gp.refm hh y8 [y0, y27] fun v11 h12 => zy2i (callW gp) gp.refm h12 y8 [y1, y27] fun v13 h14 => (zyco v11 v13 y7).bind fun v15 => (opExt 0 v15).bind fun v16 => (opExt 1 v15).bind fun v17 => (zydh 1 y6 y27).bind fun v18 => (zydm h14 1 v18 v16).bind fun h19 => (opBin .add y27 (.int .i64 1)).bind fun v20 => zf4s.l0 y0 y1 y6 v17 y8 y26 v20 h19) ((callW gp fid.zf3g [y6] hh).bind fun r21 => zy5v r21.2 (.tup [r21.1, (.int .i64 0)]))) :=
 (zyar gp zf4s.fn [true, true, true, true, true, true, false, true, false] (fun v h => zy5v h v) ⟨frame 49 [(0, y0), (1, y1), (6, y6), (7, y7), (8, y8), (26, y26), (27, y27)], hh⟩).trans (by kernel_rfl)
theorem zf4s.eq (a0 : AV) (a1 : AV) : cv gp fid.zf4s [a0, a1] = zf4s.f a0 a1 :=
 (cv_eq gp fid.zf4s [a0, a1] zf4s.fn_eq).trans (by kernel_rfl)

noncomputable def zf4t.fn : AFun := (gp.fn fid.zf4t).getD default
theorem zf4t.fn_eq : gp.fn fid.zf4t = some zf4t.fn := by kernel_rfl
noncomputable def zf4t.f (a0 : AV) (a1 : AV) : Option AV :=
 (zycy 1 2 [.is 0 true []] [(0, a0), (1, a1)]).bind fun v1 => (byVal (callW gp) [] fid.zf3e [v1]).bind fun v2 => condK v2 (zy5v [] (.tup [(.is 0 true []), (.int .i64 5)])) ((callW gp fid.zf3g [a0] []).bind fun r3 => (callW gp fid.zf3g [a1] r3.2).bind fun r4 => (byVal (callW gp) r4.2 fid.zf3f [r3.1, r4.1]).bind fun v5 => (opBin .lss v5 (.int .i64 0)).bind fun v6 => condK v6 (zy5v r4.2 (.tup [(.is 0 true []), (.int .i64 2)])) ((zycy 1 0 [nat .u64 0] []).bind fun v7 => (opApp r4.2 1 v7 r3.1).bind fun r8 => (callW gp fid.zf4c [r8.1, r4.1] r8.2).bind fun r9 => (callW gp fid.zf3g [r8.1] r9.2).bind fun r10 => zy5v r10.2 (.tup [r10.1, (.int .i64 0)])))
theorem zf4t.eq (a0 : AV) (a1 : AV) : cv gp fid.zf4t [a0, a1] = zf4t.f a0 a1 :=
 (cv_eq gp fid.zf4t [a0, a1] zf4t.fn_eq).trans (by kernel_rfl)

noncomputable def zf4u.fn : AFun := (gp.fn fid.zf4u).getD default
theorem zf4u.fn_eq : gp.fn fid.zf4u = some zf4u.fn := by kernel_rfl
noncomputable def zf4u.f (a0 : AV) (a1 : AV) : Option AV :=
 (opLen false a0).bind fun v1 => (opBin .lss a1 v1).bind fun v2 => condK v2 ((zydh 1 a0 a1).bind fun v3 => (zyd4 [] none v3).bind fun v4 => zy5v [] v4) (zy5v [] (nat .u64 0))
theorem zf4u.eq (a0 : AV) (a1 : AV) : cv gp fid.zf4u [a0, a1] = zf4u.f a0 a1 :=
 (cv_eq gp fid.zf4u [a0, a1] zf4u.fn_eq).trans (by kernel_rfl)

end Go.Proofs.YtiblnpnfaadmcaaGreat.Am
