import Derived.Test.YtojfiboeghonoaaGreatAmGp
set_option linter.unusedVariables false
set_option maxRecDepth 10000
set_option maxHeartbeats 0
namespace Go.Proofs.YtojfiboeghonoaaGreat.Am
open Go
/-! gusset gussetref05.Asked -/
noncomputable def gussetref05_Asked.fn : AFun := (gp.fn fid.gussetref05_Asked).getD default
theorem gussetref05_Asked.fn_eq : gp.fn fid.gussetref05_Asked = some gussetref05_Asked.fn := by kernel_rfl
noncomputable def gussetref05_Asked.l0 (y0 : AV) (y3 : AV) : Option AV := loopAt gp gussetref05_Asked.fn [true, false, true, false] (fun v h => freeze h v) ⟨frame 33 [(0, y0), (3, y3)], []⟩
noncomputable def gussetref05_Asked.f (a0 : AV) : Option AV :=
  gussetref05_Asked.l0 a0 (.int .i64 0)
theorem gussetref05_Asked.l0_eq (y0 : AV) (y3 : AV) : gussetref05_Asked.l0 y0 y3 =
    ((opLen false y0).bind fun v1 => (opBin .lss y3 v1).bind fun v2 => condK v2 ((opSidx 6 y0 y3).bind fun v3 => (opFaddr 0 v3).bind fun v4 => (opLoad [] (some 3) v4).bind fun v5 => (byVal (callW gp) [] fid.gussetref05_long [v5]).bind fun v6 => guardK v6 false ((opSidx 6 y0 y3).bind fun v7 => (opFaddr 3 v7).bind fun v8 => (opLoad [] (some 3) v8).bind fun v9 => (byVal (callW gp) [] fid.gussetref05_long [v9]).bind fun v10 => condK v10 (freeze [] (.int .i64 5)) ((opSidx 6 y0 y3).bind fun v11 => (opLoad [] (some 6) v11).bind fun v12 => (byVal (callW gp) [] fid.gussetref04_Check [v12]).bind fun v13 => (opBin .neq v13 (.int .i64 0)).bind fun v14 => condK v14 (freeze [] v13) ((opBin .add y3 (.int .i64 1)).bind fun v15 => gussetref05_Asked.l0 y0 v15))) (freeze [] (.int .i64 5))) (freeze [] (.int .i64 0))) :=
  (loopAt_eq gp gussetref05_Asked.fn [true, false, true, false] (fun v h => freeze h v) ⟨frame 33 [(0, y0), (3, y3)], []⟩).trans (by kernel_rfl)
theorem gussetref05_Asked.eq (a0 : AV) : cv gp fid.gussetref05_Asked [a0] = gussetref05_Asked.f a0 :=
  (cv_eq gp fid.gussetref05_Asked [a0] gussetref05_Asked.fn_eq).trans (by kernel_rfl)

/-! gusset gussetref05.Within -/
/-! gusset gussetref05.long -/
noncomputable def gussetref05_long.fn : AFun := (gp.fn fid.gussetref05_long).getD default
theorem gussetref05_long.fn_eq : gp.fn fid.gussetref05_long = some gussetref05_long.fn := by kernel_rfl
noncomputable def gussetref05_long.f (a0 : AV) : Option AV :=
  (opBox [] a0).bind fun r1 => (opFaddr 0 r1.1).bind fun v2 => (opFaddr 1 v2).bind fun v3 => (opLoad r1.2 none v3).bind fun v4 => (opLen true v4).bind fun v5 => (opBin .gtr v5 (.int .i64 100)).bind fun v6 => guardK v6 false ((opFaddr 2 r1.1).bind fun v7 => (opLoad r1.2 none v7).bind fun v8 => (opLen true v8).bind fun v9 => (opBin .gtr v9 (.int .i64 100)).bind fun v10 => freeze r1.2 v10) (freeze r1.2 (.bool true))
theorem gussetref05_long.eq (a0 : AV) : cv gp fid.gussetref05_long [a0] = gussetref05_long.f a0 :=
  (cv_eq gp fid.gussetref05_long [a0] gussetref05_long.fn_eq).trans (by kernel_rfl)

/-! gusset geom.Orient -/
noncomputable def geom_Orient.fn : AFun := (gp.fn fid.geom_Orient).getD default
theorem geom_Orient.fn_eq : gp.fn fid.geom_Orient = some geom_Orient.fn := by kernel_rfl
noncomputable def geom_Orient.f (a0 : AV) (a1 : AV) (a2 : AV) : Option AV :=
  (opBox [] a0).bind fun r1 => (opBox r1.2 a1).bind fun r2 => (opBox r2.2 a2).bind fun r3 => (opLoad r3.2 (some 6) r1.1).bind fun v4 => (opLoad r3.2 (some 6) r2.1).bind fun v5 => (opLoad r3.2 (some 6) r3.1).bind fun v6 => (opBslc 6 3 [.bool false, .str ⟨#[]⟩, .str ⟨#[]⟩, .bool false, .str ⟨#[]⟩, .str ⟨#[]⟩] [(0, v4), (1, v5), (2, v6)]).bind fun v7 => (byVal (callW gp) r3.2 fid.geom_asked [v7]).bind fun v8 => (opBin .neq v8 (.int .i64 0)).bind fun v9 => condK v9 (freeze r3.2 (.tup [(.int .i64 0), v8])) ((opLoad r3.2 (some 6) r1.1).bind fun v10 => (opLoad r3.2 (some 6) r2.1).bind fun v11 => (opLoad r3.2 (some 6) r3.1).bind fun v12 => (byVal (callW gp) r3.2 fid.geom_turn [v10, v11, v12]).bind fun v13 => freeze r3.2 (.tup [v13, (.int .i64 0)]))
theorem geom_Orient.eq (a0 : AV) (a1 : AV) (a2 : AV) : cv gp fid.geom_Orient [a0, a1, a2] = geom_Orient.f a0 a1 a2 :=
  (cv_eq gp fid.geom_Orient [a0, a1, a2] geom_Orient.fn_eq).trans (by kernel_rfl)

/-! gusset gussetref05.Orient -/
noncomputable def gussetref05_Orient.fn : AFun := (gp.fn fid.gussetref05_Orient).getD default
theorem gussetref05_Orient.fn_eq : gp.fn fid.gussetref05_Orient = some gussetref05_Orient.fn := by kernel_rfl
noncomputable def gussetref05_Orient.f (a0 : AV) (a1 : AV) (a2 : AV) : Option AV :=
  (opBox [] a0).bind fun r1 => (opBox r1.2 a1).bind fun r2 => (opBox r2.2 a2).bind fun r3 => (opLoad r3.2 (some 6) r2.1).bind fun v4 => (opLoad r3.2 (some 6) r1.1).bind fun v5 => (byVal (callW gp) r3.2 fid.gussetref04_Minus [v4, v5]).bind fun v6 => (opLoad r3.2 (some 6) r3.1).bind fun v7 => (opLoad r3.2 (some 6) r1.1).bind fun v8 => (byVal (callW gp) r3.2 fid.gussetref04_Minus [v7, v8]).bind fun v9 => (byVal (callW gp) r3.2 fid.gussetref04_Cross [v6, v9]).bind fun v10 => (byVal (callW gp) r3.2 fid.gussetref03_Sign [v10]).bind fun v11 => freeze r3.2 v11
theorem gussetref05_Orient.eq (a0 : AV) (a1 : AV) (a2 : AV) : cv gp fid.gussetref05_Orient [a0, a1, a2] = gussetref05_Orient.f a0 a1 a2 :=
  (cv_eq gp fid.gussetref05_Orient [a0, a1, a2] gussetref05_Orient.fn_eq).trans (by kernel_rfl)

/-! gusset geom.Within -/
noncomputable def geom_Within.fn : AFun := (gp.fn fid.geom_Within).getD default
theorem geom_Within.fn_eq : gp.fn fid.geom_Within = some geom_Within.fn := by kernel_rfl
noncomputable def geom_Within.f (a0 : AV) (a1 : AV) (a2 : AV) (a3 : AV) : Option AV :=
  (opBox [] a0).bind fun r1 => (opBox r1.2 a1).bind fun r2 => (opBox r2.2 a2).bind fun r3 => (opBox r3.2 a3).bind fun r4 => (opLoad r4.2 (some 6) r1.1).bind fun v5 => (opLoad r4.2 (some 6) r2.1).bind fun v6 => (opLoad r4.2 (some 6) r3.1).bind fun v7 => (opLoad r4.2 (some 6) r4.1).bind fun v8 => (opBslc 6 4 [.bool false, .str ⟨#[]⟩, .str ⟨#[]⟩, .bool false, .str ⟨#[]⟩, .str ⟨#[]⟩] [(0, v5), (1, v6), (2, v7), (3, v8)]).bind fun v9 => (byVal (callW gp) r4.2 fid.geom_asked [v9]).bind fun v10 => (opBin .neq v10 (.int .i64 0)).bind fun v11 => condK v11 (freeze r4.2 (.tup [(.int .i64 0), v10])) ((opLoad r4.2 (some 6) r1.1).bind fun v12 => (opLoad r4.2 (some 6) r2.1).bind fun v13 => (opLoad r4.2 (some 6) r3.1).bind fun v14 => (byVal (callW gp) r4.2 fid.geom_turn [v12, v13, v14]).bind fun v15 => (opBin .eql v15 (.int .i64 0)).bind fun v16 => condK v16 (freeze r4.2 (.tup [(.int .i64 0), (.int .i64 6)])) ((opLoad r4.2 (some 6) r1.1).bind fun v17 => (opLoad r4.2 (some 6) r2.1).bind fun v18 => (opLoad r4.2 (some 6) r4.1).bind fun v19 => (byVal (callW gp) r4.2 fid.geom_turn [v17, v18, v19]).bind fun v20 => (opBin .mul v15 v20).bind fun v21 => (opLoad r4.2 (some 6) r2.1).bind fun v22 => (opLoad r4.2 (some 6) r3.1).bind fun v23 => (opLoad r4.2 (some 6) r4.1).bind fun v24 => (byVal (callW gp) r4.2 fid.geom_turn [v22, v23, v24]).bind fun v25 => (opBin .mul v15 v25).bind fun v26 => (opLoad r4.2 (some 6) r3.1).bind fun v27 => (opLoad r4.2 (some 6) r1.1).bind fun v28 => (opLoad r4.2 (some 6) r4.1).bind fun v29 => (byVal (callW gp) r4.2 fid.geom_turn [v27, v28, v29]).bind fun v30 => (opBin .mul v15 v30).bind fun v31 => (opMm false [v21, v26, v31]).bind fun v32 => freeze r4.2 (.tup [v32, (.int .i64 0)])))
theorem geom_Within.eq (a0 : AV) (a1 : AV) (a2 : AV) (a3 : AV) : cv gp fid.geom_Within [a0, a1, a2, a3] = geom_Within.f a0 a1 a2 a3 :=
  (cv_eq gp fid.geom_Within [a0, a1, a2, a3] geom_Within.fn_eq).trans (by kernel_rfl)

/-! gusset geom.asked -/
noncomputable def geom_asked.fn : AFun := (gp.fn fid.geom_asked).getD default
theorem geom_asked.fn_eq : gp.fn fid.geom_asked = some geom_asked.fn := by kernel_rfl
noncomputable def geom_asked.l1 (y4 : AV) (y8 : AV) (y9 : AV) (y10 : AV) (y18 : AV) (y19 : AV) (y20 : AV) (hh : Heap) : Option AV := loopAt gp geom_asked.fn [true, false, true, false, false, true, true, false, false, true, false, true, false] (fun v h => freeze h v) ⟨frame 42 [(4, y4), (8, y8), (9, y9), (10, y10), (18, y18), (19, y19), (20, y20)], hh⟩
noncomputable def geom_asked.l0 (y8 : AV) (y9 : AV) (y10 : AV) (hh : Heap) : Option AV := loopAt gp geom_asked.fn [true, false, true, false] (fun v h => freeze h v) ⟨frame 42 [(8, y8), (9, y9), (10, y10)], hh⟩
noncomputable def geom_asked.f (a0 : AV) : Option AV :=
  (opLen false a0).bind fun v1 => geom_asked.l0 a0 v1 (.int .i64 0) []
theorem geom_asked.l1_eq (y4 : AV) (y8 : AV) (y9 : AV) (y10 : AV) (y18 : AV) (y19 : AV) (y20 : AV) (hh : Heap) : geom_asked.l1 y4 y8 y9 y10 y18 y19 y20 hh =
    ((opBin .lss y20 y19).bind fun v12 => condK v12 ((opSidx 3 y18 y20).bind fun v13 => (opLoad hh (some 3) v13).bind fun v14 => (opStore (@HAppend.hAppend Heap Heap Heap _ hh [some [.bool false, .str ⟨#[]⟩, .str ⟨#[]⟩]]) 3 (.rp (List.length (hh : Heap)) 0) v14).bind fun h15 => (opFaddr 0 (.rp (List.length (hh : Heap)) 0)).bind fun v16 => (opFaddr 1 v16).bind fun v17 => (opLoad h15 none v17).bind fun v18 => (opLen true v18).bind fun v19 => (opBin .gtr v19 (.int .i64 100)).bind fun v20 => guardK v20 false ((opFaddr 2 (.rp (List.length (hh : Heap)) 0)).bind fun v21 => (opLoad h15 none v21).bind fun v22 => (opLen true v22).bind fun v23 => (opBin .gtr v23 (.int .i64 100)).bind fun v24 => condK v24 (freeze h15 (.int .i64 5)) ((opBin .add y20 (.int .i64 1)).bind fun v25 => geom_asked.l1 y4 y8 y9 y10 y18 y19 v25 h15)) (freeze h15 (.int .i64 5))) ((opLoad hh (some 6) y4).bind fun v26 => (byVal (callW gp) hh fid.vec_Check [v26]).bind fun v27 => (opBin .neq v27 (.int .i64 0)).bind fun v28 => condK v28 (freeze hh v27) ((opBin .add y10 (.int .i64 1)).bind fun v29 => geom_asked.l0 y8 y9 v29 hh))) :=
  (loopAt_eq gp geom_asked.fn [true, false, true, false, false, true, true, false, false, true, false, true, false] (fun v h => freeze h v) ⟨frame 42 [(4, y4), (8, y8), (9, y9), (10, y10), (18, y18), (19, y19), (20, y20)], hh⟩).trans (by kernel_rfl)
theorem geom_asked.l0_eq (y8 : AV) (y9 : AV) (y10 : AV) (hh : Heap) : geom_asked.l0 y8 y9 y10 hh =
    ((opBin .lss y10 y9).bind fun v2 => condK v2 ((opSidx 6 y8 y10).bind fun v3 => (opLoad hh (some 6) v3).bind fun v4 => (opStore (@HAppend.hAppend Heap Heap Heap _ hh [some [.bool false, .str ⟨#[]⟩, .str ⟨#[]⟩, .bool false, .str ⟨#[]⟩, .str ⟨#[]⟩]]) 6 (.rp (List.length (hh : Heap)) 0) v4).bind fun h5 => (opFaddr 0 (.rp (List.length (hh : Heap)) 0)).bind fun v6 => (opLoad h5 (some 3) v6).bind fun v7 => (opFaddr 3 (.rp (List.length (hh : Heap)) 0)).bind fun v8 => (opLoad h5 (some 3) v8).bind fun v9 => (opBslc 3 2 [.bool false, .str ⟨#[]⟩, .str ⟨#[]⟩] [(0, v7), (1, v9)]).bind fun v10 => (opLen false v10).bind fun v11 => geom_asked.l1 (.rp (List.length (hh : Heap)) 0) y8 y9 y10 v10 v11 (.int .i64 0) h5) (freeze hh (.int .i64 0))) :=
  (loopAt_eq gp geom_asked.fn [true, false, true, false] (fun v h => freeze h v) ⟨frame 42 [(8, y8), (9, y9), (10, y10)], hh⟩).trans (by kernel_rfl)
theorem geom_asked.eq (a0 : AV) : cv gp fid.geom_asked [a0] = geom_asked.f a0 :=
  (cv_eq gp fid.geom_asked [a0] geom_asked.fn_eq).trans (by kernel_rfl)

/-! gusset geom.turn -/
noncomputable def geom_turn.fn : AFun := (gp.fn fid.geom_turn).getD default
theorem geom_turn.fn_eq : gp.fn fid.geom_turn = some geom_turn.fn := by kernel_rfl
noncomputable def geom_turn.f (a0 : AV) (a1 : AV) (a2 : AV) : Option AV :=
  (opBox [] a0).bind fun r1 => (opBox r1.2 a1).bind fun r2 => (opBox r2.2 a2).bind fun r3 => (opLoad r3.2 (some 6) r2.1).bind fun v4 => (opLoad r3.2 (some 6) r1.1).bind fun v5 => (byVal (callW gp) r3.2 fid.geom_minus [v4, v5]).bind fun v6 => (opLoad r3.2 (some 6) r3.1).bind fun v7 => (opLoad r3.2 (some 6) r1.1).bind fun v8 => (byVal (callW gp) r3.2 fid.geom_minus [v7, v8]).bind fun v9 => (byVal (callW gp) r3.2 fid.geom_cross [v6, v9]).bind fun v10 => (byVal (callW gp) r3.2 fid.geom_sign [v10]).bind fun v11 => freeze r3.2 v11
theorem geom_turn.eq (a0 : AV) (a1 : AV) (a2 : AV) : cv gp fid.geom_turn [a0, a1, a2] = geom_turn.f a0 a1 a2 :=
  (cv_eq gp fid.geom_turn [a0, a1, a2] geom_turn.fn_eq).trans (by kernel_rfl)

/-! gusset geom.sign -/
noncomputable def geom_sign.fn : AFun := (gp.fn fid.geom_sign).getD default
theorem geom_sign.fn_eq : gp.fn fid.geom_sign = some geom_sign.fn := by kernel_rfl
noncomputable def geom_sign.f (a0 : AV) : Option AV :=
  (opBox [] a0).bind fun r1 => (opLoad r1.2 (some 3) r1.1).bind fun v2 => (byVal (callW gp) r1.2 fid.rat_Sign [v2]).bind fun v3 => (opExt 0 v3).bind fun v4 => (opExt 1 v3).bind fun v5 => freeze r1.2 v4
theorem geom_sign.eq (a0 : AV) : cv gp fid.geom_sign [a0] = geom_sign.f a0 :=
  (cv_eq gp fid.geom_sign [a0] geom_sign.fn_eq).trans (by kernel_rfl)

/-! gusset geom.cross -/
noncomputable def geom_cross.fn : AFun := (gp.fn fid.geom_cross).getD default
theorem geom_cross.fn_eq : gp.fn fid.geom_cross = some geom_cross.fn := by kernel_rfl
noncomputable def geom_cross.f (a0 : AV) (a1 : AV) : Option AV :=
  (opBox [] a0).bind fun r1 => (opBox r1.2 a1).bind fun r2 => (opLoad (@HAppend.hAppend Heap Heap Heap _ r2.2 [some [.bool false, .str ⟨#[]⟩, .str ⟨#[]⟩]]) (some 6) r1.1).bind fun v3 => (opLoad (@HAppend.hAppend Heap Heap Heap _ r2.2 [some [.bool false, .str ⟨#[]⟩, .str ⟨#[]⟩]]) (some 6) r2.1).bind fun v4 => (byVal (callW gp) (@HAppend.hAppend Heap Heap Heap _ r2.2 [some [.bool false, .str ⟨#[]⟩, .str ⟨#[]⟩]]) fid.vec_Cross [v3, v4]).bind fun v5 => (opExt 0 v5).bind fun v6 => (opExt 1 v5).bind fun v7 => (opStore (@HAppend.hAppend Heap Heap Heap _ (@HAppend.hAppend Heap Heap Heap _ r2.2 [some [.bool false, .str ⟨#[]⟩, .str ⟨#[]⟩]]) [some [.bool false, .str ⟨#[]⟩, .str ⟨#[]⟩]]) 3 (.rp (List.length ((@HAppend.hAppend Heap Heap Heap _ r2.2 [some [.bool false, .str ⟨#[]⟩, .str ⟨#[]⟩]]) : Heap)) 0) v6).bind fun h8 => (opLoad h8 (some 3) (.rp (List.length ((@HAppend.hAppend Heap Heap Heap _ r2.2 [some [.bool false, .str ⟨#[]⟩, .str ⟨#[]⟩]]) : Heap)) 0)).bind fun v9 => (opStore h8 3 (.rp (List.length (r2.2 : Heap)) 0) v9).bind fun h10 => (opLoad h10 (some 3) (.rp (List.length (r2.2 : Heap)) 0)).bind fun v11 => freeze h10 v11
theorem geom_cross.eq (a0 : AV) (a1 : AV) : cv gp fid.geom_cross [a0, a1] = geom_cross.f a0 a1 :=
  (cv_eq gp fid.geom_cross [a0, a1] geom_cross.fn_eq).trans (by kernel_rfl)

/-! gusset geom.minus -/
noncomputable def geom_minus.fn : AFun := (gp.fn fid.geom_minus).getD default
theorem geom_minus.fn_eq : gp.fn fid.geom_minus = some geom_minus.fn := by kernel_rfl
noncomputable def geom_minus.f (a0 : AV) (a1 : AV) : Option AV :=
  (opBox [] a0).bind fun r1 => (opBox r1.2 a1).bind fun r2 => (opLoad (@HAppend.hAppend Heap Heap Heap _ r2.2 [some [.bool false, .str ⟨#[]⟩, .str ⟨#[]⟩, .bool false, .str ⟨#[]⟩, .str ⟨#[]⟩]]) (some 6) r1.1).bind fun v3 => (opLoad (@HAppend.hAppend Heap Heap Heap _ r2.2 [some [.bool false, .str ⟨#[]⟩, .str ⟨#[]⟩, .bool false, .str ⟨#[]⟩, .str ⟨#[]⟩]]) (some 6) r2.1).bind fun v4 => (byVal (callW gp) (@HAppend.hAppend Heap Heap Heap _ r2.2 [some [.bool false, .str ⟨#[]⟩, .str ⟨#[]⟩, .bool false, .str ⟨#[]⟩, .str ⟨#[]⟩]]) fid.vec_Minus [v3, v4]).bind fun v5 => (opExt 0 v5).bind fun v6 => (opExt 1 v5).bind fun v7 => (opStore (@HAppend.hAppend Heap Heap Heap _ (@HAppend.hAppend Heap Heap Heap _ r2.2 [some [.bool false, .str ⟨#[]⟩, .str ⟨#[]⟩, .bool false, .str ⟨#[]⟩, .str ⟨#[]⟩]]) [some [.bool false, .str ⟨#[]⟩, .str ⟨#[]⟩, .bool false, .str ⟨#[]⟩, .str ⟨#[]⟩]]) 6 (.rp (List.length ((@HAppend.hAppend Heap Heap Heap _ r2.2 [some [.bool false, .str ⟨#[]⟩, .str ⟨#[]⟩, .bool false, .str ⟨#[]⟩, .str ⟨#[]⟩]]) : Heap)) 0) v6).bind fun h8 => (opLoad h8 (some 6) (.rp (List.length ((@HAppend.hAppend Heap Heap Heap _ r2.2 [some [.bool false, .str ⟨#[]⟩, .str ⟨#[]⟩, .bool false, .str ⟨#[]⟩, .str ⟨#[]⟩]]) : Heap)) 0)).bind fun v9 => (opStore h8 6 (.rp (List.length (r2.2 : Heap)) 0) v9).bind fun h10 => (opLoad h10 (some 6) (.rp (List.length (r2.2 : Heap)) 0)).bind fun v11 => freeze h10 v11
theorem geom_minus.eq (a0 : AV) (a1 : AV) : cv gp fid.geom_minus [a0, a1] = geom_minus.f a0 a1 :=
  (cv_eq gp fid.geom_minus [a0, a1] geom_minus.fn_eq).trans (by kernel_rfl)

end Go.Proofs.YtojfiboeghonoaaGreat.Am
