import Derived.Test.YtcpmkohlmjakmaaGreatDoorAmGp
set_option linter.unusedVariables false
set_option maxRecDepth 10000
set_option maxHeartbeats 0
namespace Go.Proofs.YtcpmkohlmjakmaaGreatDoor.Am
open Go
/-! gusset gussetref07.Three -/
noncomputable def gussetref07_Three.fn : AFun := (gp.fn fid.gussetref07_Three).getD default
theorem gussetref07_Three.fn_eq : gp.fn fid.gussetref07_Three = some gussetref07_Three.fn := by kernel_rfl
noncomputable def gussetref07_Three.f (a0 : AV) (a1 : AV) : Option AV :=
  (opBox [] a0).bind fun r1 => (opBox r1.2 a1).bind fun r2 => (opLoad r2.2 (some 18) r1.1).bind fun v3 => (byVal (callW gp) r2.2 fid.gussetref07_Check [v3]).bind fun v4 => (opBin .neq v4 (.int .i64 0)).bind fun v5 => condK v5 (freeze r2.2 v4) ((opAidx 6 3 r2.1 (.int .i64 0)).bind fun v6 => (opLoad r2.2 (some 6) v6).bind fun v7 => (opAidx 6 3 r2.1 (.int .i64 1)).bind fun v8 => (opLoad r2.2 (some 6) v8).bind fun v9 => (opAidx 6 3 r2.1 (.int .i64 2)).bind fun v10 => (opLoad r2.2 (some 6) v10).bind fun v11 => (opBslc 6 3 [.bool false, .str ⟨#[]⟩, .str ⟨#[]⟩, .bool false, .str ⟨#[]⟩, .str ⟨#[]⟩] [(0, v7), (1, v9), (2, v11)]).bind fun v12 => (byVal (callW gp) r2.2 fid.gussetref07_Asked [v12]).bind fun v13 => (opBin .neq v13 (.int .i64 0)).bind fun v14 => condK v14 (freeze r2.2 v13) ((opAidx 6 3 r2.1 (.int .i64 0)).bind fun v15 => (opLoad r2.2 (some 6) v15).bind fun v16 => (opAidx 6 3 r2.1 (.int .i64 1)).bind fun v17 => (opLoad r2.2 (some 6) v17).bind fun v18 => (opAidx 6 3 r2.1 (.int .i64 2)).bind fun v19 => (opLoad r2.2 (some 6) v19).bind fun v20 => (byVal (callW gp) r2.2 fid.gussetref05_Orient [v16, v18, v20]).bind fun v21 => (opBin .eql v21 (.int .i64 0)).bind fun v22 => condK v22 (freeze r2.2 (.int .i64 6)) (freeze r2.2 (.int .i64 0))))
theorem gussetref07_Three.eq (a0 : AV) (a1 : AV) : cv gp fid.gussetref07_Three [a0, a1] = gussetref07_Three.f a0 a1 :=
  (cv_eq gp fid.gussetref07_Three [a0, a1] gussetref07_Three.fn_eq).trans (by kernel_rfl)

/-! gusset gussetref07.Check -/
noncomputable def gussetref07_Check.fn : AFun := (gp.fn fid.gussetref07_Check).getD default
theorem gussetref07_Check.fn_eq : gp.fn fid.gussetref07_Check = some gussetref07_Check.fn := by kernel_rfl
noncomputable def gussetref07_Check.l0 (y1 : AV) (y3 : AV) (hh : Heap) : Option AV := loopAt gp gussetref07_Check.fn [true, false, true, false] (fun v h => freeze h v) ⟨frame 16 [(1, y1), (3, y3)], hh⟩
noncomputable def gussetref07_Check.f (a0 : AV) : Option AV :=
  (opBox [] a0).bind fun r1 => gussetref07_Check.l0 r1.1 (.int .i64 0) r1.2
theorem gussetref07_Check.l0_eq (y1 : AV) (y3 : AV) (hh : Heap) : gussetref07_Check.l0 y1 y3 hh =
    ((opBin .lss y3 (.int .i64 6)).bind fun v2 => condK v2 ((opAidx 3 6 y1 y3).bind fun v3 => (opLoad hh (some 3) v3).bind fun v4 => (byVal (callW gp) hh fid.gussetref07_one [v4]).bind fun v5 => (opBin .neq v5 (.int .i64 0)).bind fun v6 => condK v6 (freeze hh v5) ((opBin .add y3 (.int .i64 1)).bind fun v7 => gussetref07_Check.l0 y1 v7 hh)) (freeze hh (.int .i64 0))) :=
  (loopAt_eq gp gussetref07_Check.fn [true, false, true, false] (fun v h => freeze h v) ⟨frame 16 [(1, y1), (3, y3)], hh⟩).trans (by kernel_rfl)
theorem gussetref07_Check.eq (a0 : AV) : cv gp fid.gussetref07_Check [a0] = gussetref07_Check.f a0 :=
  (cv_eq gp fid.gussetref07_Check [a0] gussetref07_Check.fn_eq).trans (by kernel_rfl)

/-! gusset gussetref07.Zero -/
noncomputable def gussetref07_Zero.fn : AFun := (gp.fn fid.gussetref07_Zero).getD default
theorem gussetref07_Zero.fn_eq : gp.fn fid.gussetref07_Zero = some gussetref07_Zero.fn := by kernel_rfl
noncomputable def gussetref07_Zero.l0 (y1 : AV) (y3 : AV) (hh : Heap) : Option AV := loopAt gp gussetref07_Zero.fn [true, false, true, false] (fun v h => freeze h v) ⟨frame 13 [(1, y1), (3, y3)], hh⟩
noncomputable def gussetref07_Zero.f (a0 : AV) : Option AV :=
  (opBox [] a0).bind fun r1 => gussetref07_Zero.l0 r1.1 (.int .i64 0) r1.2
theorem gussetref07_Zero.l0_eq (y1 : AV) (y3 : AV) (hh : Heap) : gussetref07_Zero.l0 y1 y3 hh =
    ((opBin .lss y3 (.int .i64 6)).bind fun v2 => condK v2 ((opAidx 3 6 y1 y3).bind fun v3 => (opLoad hh (some 3) v3).bind fun v4 => (byVal (callW gp) hh fid.gussetref03_Sign [v4]).bind fun v5 => (opBin .neq v5 (.int .i64 0)).bind fun v6 => condK v6 (freeze hh (.bool false)) ((opBin .add y3 (.int .i64 1)).bind fun v7 => gussetref07_Zero.l0 y1 v7 hh)) (freeze hh (.bool true))) :=
  (loopAt_eq gp gussetref07_Zero.fn [true, false, true, false] (fun v h => freeze h v) ⟨frame 13 [(1, y1), (3, y3)], hh⟩).trans (by kernel_rfl)
theorem gussetref07_Zero.eq (a0 : AV) : cv gp fid.gussetref07_Zero [a0] = gussetref07_Zero.f a0 :=
  (cv_eq gp fid.gussetref07_Zero [a0] gussetref07_Zero.fn_eq).trans (by kernel_rfl)

/-! gusset poly.Eval -/
noncomputable def poly_Eval.fn : AFun := (gp.fn fid.poly_Eval).getD default
theorem poly_Eval.fn_eq : gp.fn fid.poly_Eval = some poly_Eval.fn := by kernel_rfl
noncomputable def poly_Eval.f (a0 : AV) (a1 : AV) : Option AV :=
  (opBox [] a0).bind fun r1 => (opBox r1.2 a1).bind fun r2 => (opLoad (@HAppend.hAppend Heap Heap Heap _ r2.2 [some [.bool false, .str ⟨#[]⟩, .str ⟨#[]⟩]]) (some 18) r1.1).bind fun v3 => (byVal (callW gp) (@HAppend.hAppend Heap Heap Heap _ r2.2 [some [.bool false, .str ⟨#[]⟩, .str ⟨#[]⟩]]) fid.poly_Check [v3]).bind fun v4 => (opBin .neq v4 (.int .i64 0)).bind fun v5 => condK v5 ((opBld [.bool false, .str ⟨#[]⟩, .str ⟨#[]⟩] []).bind fun v6 => (opStore (@HAppend.hAppend Heap Heap Heap _ r2.2 [some [.bool false, .str ⟨#[]⟩, .str ⟨#[]⟩]]) 3 (.rp (List.length (r2.2 : Heap)) 0) v6).bind fun h7 => (opLoad h7 (some 3) (.rp (List.length (r2.2 : Heap)) 0)).bind fun v8 => freeze h7 (.tup [v8, v4])) ((opFaddr 0 r2.1).bind fun v9 => (opLoad (@HAppend.hAppend Heap Heap Heap _ r2.2 [some [.bool false, .str ⟨#[]⟩, .str ⟨#[]⟩]]) (some 3) v9).bind fun v10 => (opFaddr 3 r2.1).bind fun v11 => (opLoad (@HAppend.hAppend Heap Heap Heap _ r2.2 [some [.bool false, .str ⟨#[]⟩, .str ⟨#[]⟩]]) (some 3) v11).bind fun v12 => (opBslc 3 2 [.bool false, .str ⟨#[]⟩, .str ⟨#[]⟩] [(0, v10), (1, v12)]).bind fun v13 => (byVal (callW gp) (@HAppend.hAppend Heap Heap Heap _ r2.2 [some [.bool false, .str ⟨#[]⟩, .str ⟨#[]⟩]]) fid.poly_asked [v13]).bind fun v14 => (opBin .neq v14 (.int .i64 0)).bind fun v15 => condK v15 ((opBld [.bool false, .str ⟨#[]⟩, .str ⟨#[]⟩] []).bind fun v16 => (opStore (@HAppend.hAppend Heap Heap Heap _ r2.2 [some [.bool false, .str ⟨#[]⟩, .str ⟨#[]⟩]]) 3 (.rp (List.length (r2.2 : Heap)) 0) v16).bind fun h17 => (opLoad h17 (some 3) (.rp (List.length (r2.2 : Heap)) 0)).bind fun v18 => freeze h17 (.tup [v18, v14])) ((opLoad (@HAppend.hAppend Heap Heap Heap _ r2.2 [some [.bool false, .str ⟨#[]⟩, .str ⟨#[]⟩]]) (some 18) r1.1).bind fun v19 => (opLoad (@HAppend.hAppend Heap Heap Heap _ r2.2 [some [.bool false, .str ⟨#[]⟩, .str ⟨#[]⟩]]) (some 6) r2.1).bind fun v20 => (byVal (callW gp) (@HAppend.hAppend Heap Heap Heap _ r2.2 [some [.bool false, .str ⟨#[]⟩, .str ⟨#[]⟩]]) fid.poly_eval [v19, v20]).bind fun v21 => (opStore (@HAppend.hAppend Heap Heap Heap _ r2.2 [some [.bool false, .str ⟨#[]⟩, .str ⟨#[]⟩]]) 3 (.rp (List.length (r2.2 : Heap)) 0) v21).bind fun h22 => (opLoad h22 (some 3) (.rp (List.length (r2.2 : Heap)) 0)).bind fun v23 => freeze h22 (.tup [v23, (.int .i64 0)])))
theorem poly_Eval.eq (a0 : AV) (a1 : AV) : cv gp fid.poly_Eval [a0, a1] = poly_Eval.f a0 a1 :=
  (cv_eq gp fid.poly_Eval [a0, a1] poly_Eval.fn_eq).trans (by kernel_rfl)

/-! gusset poly.Check -/
noncomputable def poly_Check.fn : AFun := (gp.fn fid.poly_Check).getD default
theorem poly_Check.fn_eq : gp.fn fid.poly_Check = some poly_Check.fn := by kernel_rfl
noncomputable def poly_Check.f (a0 : AV) : Option AV :=
  (opBox [] a0).bind fun r1 => (opArrs r1.2 3 6 r1.1).bind fun v2 => (byVal (callW gp) r1.2 fid.poly_asked [v2]).bind fun v3 => freeze r1.2 v3
theorem poly_Check.eq (a0 : AV) : cv gp fid.poly_Check [a0] = poly_Check.f a0 :=
  (cv_eq gp fid.poly_Check [a0] poly_Check.fn_eq).trans (by kernel_rfl)

/-! gusset gussetref07.Asked -/
noncomputable def gussetref07_Asked.fn : AFun := (gp.fn fid.gussetref07_Asked).getD default
theorem gussetref07_Asked.fn_eq : gp.fn fid.gussetref07_Asked = some gussetref07_Asked.fn := by kernel_rfl
noncomputable def gussetref07_Asked.l0 (y0 : AV) (y3 : AV) : Option AV := loopAt gp gussetref07_Asked.fn [true, false, true, false] (fun v h => freeze h v) ⟨frame 30 [(0, y0), (3, y3)], []⟩
noncomputable def gussetref07_Asked.f (a0 : AV) : Option AV :=
  gussetref07_Asked.l0 a0 (.int .i64 0)
theorem gussetref07_Asked.l0_eq (y0 : AV) (y3 : AV) : gussetref07_Asked.l0 y0 y3 =
    ((opLen false y0).bind fun v1 => (opBin .lss y3 v1).bind fun v2 => condK v2 ((opSidx 6 y0 y3).bind fun v3 => (opFaddr 0 v3).bind fun v4 => (opLoad [] (some 3) v4).bind fun v5 => (byVal (callW gp) [] fid.gussetref07_one [v5]).bind fun v6 => (opBin .neq v6 (.int .i64 0)).bind fun v7 => condK v7 (freeze [] v6) ((opSidx 6 y0 y3).bind fun v8 => (opFaddr 3 v8).bind fun v9 => (opLoad [] (some 3) v9).bind fun v10 => (byVal (callW gp) [] fid.gussetref07_one [v10]).bind fun v11 => (opBin .neq v11 (.int .i64 0)).bind fun v12 => condK v12 (freeze [] v11) ((opBin .add y3 (.int .i64 1)).bind fun v13 => gussetref07_Asked.l0 y0 v13))) (freeze [] (.int .i64 0))) :=
  (loopAt_eq gp gussetref07_Asked.fn [true, false, true, false] (fun v h => freeze h v) ⟨frame 30 [(0, y0), (3, y3)], []⟩).trans (by kernel_rfl)
theorem gussetref07_Asked.eq (a0 : AV) : cv gp fid.gussetref07_Asked [a0] = gussetref07_Asked.f a0 :=
  (cv_eq gp fid.gussetref07_Asked [a0] gussetref07_Asked.fn_eq).trans (by kernel_rfl)

/-! gusset poly.weighed -/
noncomputable def poly_weighed.fn : AFun := (gp.fn fid.poly_weighed).getD default
theorem poly_weighed.fn_eq : gp.fn fid.poly_weighed = some poly_weighed.fn := by kernel_rfl
noncomputable def poly_weighed.l0 (y3 : AV) (y4 : AV) (y6 : AV) (y8 : AV) (y9 : AV) (y15 : AV) (y16 : AV) (hh : Heap) : Option AV := loopAt gp poly_weighed.fn [true, true, false, true, false] (fun v h => freeze h v) ⟨frame 41 [(3, y3), (4, y4), (6, y6), (8, y8), (9, y9), (15, y15), (16, y16)], hh⟩
noncomputable def poly_weighed.f (a0 : AV) (a1 : AV) (a2 : AV) (a3 : AV) : Option AV :=
  (opBox [] a0).bind fun r1 => (opBox r1.2 a1).bind fun r2 => (opBox r2.2 a2).bind fun r3 => (byVal (callW gp) (@HAppend.hAppend Heap Heap Heap _ r3.2 [some [.bool false, .str ⟨#[]⟩, .str ⟨#[]⟩]]) fid.rat_Of [(.int .i64 0)]).bind fun v4 => (opStore (@HAppend.hAppend Heap Heap Heap _ (@HAppend.hAppend Heap Heap Heap _ r3.2 [some [.bool false, .str ⟨#[]⟩, .str ⟨#[]⟩]]) [some [.bool false, .str ⟨#[]⟩, .str ⟨#[]⟩]]) 3 (.rp (List.length ((@HAppend.hAppend Heap Heap Heap _ r3.2 [some [.bool false, .str ⟨#[]⟩, .str ⟨#[]⟩]]) : Heap)) 0) v4).bind fun h5 => (opLoad h5 (some 6) r2.1).bind fun v6 => poly_weighed.l0 a3 r1.1 r3.1 (.rp (List.length (r3.2 : Heap)) 0) (.rp (List.length ((@HAppend.hAppend Heap Heap Heap _ r3.2 [some [.bool false, .str ⟨#[]⟩, .str ⟨#[]⟩]]) : Heap)) 0) v6 (.int .i64 0) h5
theorem poly_weighed.l0_eq (y3 : AV) (y4 : AV) (y6 : AV) (y8 : AV) (y9 : AV) (y15 : AV) (y16 : AV) (hh : Heap) : poly_weighed.l0 y3 y4 y6 y8 y9 y15 y16 hh =
    ((opBin .lss y16 (.int .i64 6)).bind fun v7 => condK v7 ((opIdx 1 6 none y15 y16).bind fun v8 => (opBin .neq v8 (.int .i64 0)).bind fun v9 => condK v9 ((opLoad hh (some 3) y9).bind fun v10 => (opAidx 3 6 y4 y16).bind fun v11 => (opLoad hh (some 3) v11).bind fun v12 => (byVal (callW gp) hh fid.rat_Of [v8]).bind fun v13 => (byVal (callW gp) hh fid.poly_product [v12, v13]).bind fun v14 => (byVal (callW gp) hh fid.poly_sum [v10, v14]).bind fun v15 => (opStore hh 3 y9 v15).bind fun h16 => (opBin .add y16 (.int .i64 1)).bind fun v17 => poly_weighed.l0 y3 y4 y6 y8 y9 y15 v17 h16) ((opBin .add y16 (.int .i64 1)).bind fun v18 => poly_weighed.l0 y3 y4 y6 y8 y9 y15 v18 hh)) ((opLoad hh (some 3) y9).bind fun v19 => (opLoad hh (some 3) y6).bind fun v20 => (byVal (callW gp) hh fid.poly_product [v19, v20]).bind fun v21 => (byVal (callW gp) hh fid.rat_Of [y3]).bind fun v22 => (byVal (callW gp) hh fid.rat_Div [v21, v22]).bind fun v23 => (opExt 0 v23).bind fun v24 => (opExt 1 v23).bind fun v25 => (opStore (@HAppend.hAppend Heap Heap Heap _ hh [some [.bool false, .str ⟨#[]⟩, .str ⟨#[]⟩]]) 3 (.rp (List.length (hh : Heap)) 0) v24).bind fun h26 => (opLoad h26 (some 3) (.rp (List.length (hh : Heap)) 0)).bind fun v27 => (opStore h26 3 y8 v27).bind fun h28 => (opLoad h28 (some 3) y8).bind fun v29 => freeze h28 v29)) :=
  (loopAt_eq gp poly_weighed.fn [true, true, false, true, false] (fun v h => freeze h v) ⟨frame 41 [(3, y3), (4, y4), (6, y6), (8, y8), (9, y9), (15, y15), (16, y16)], hh⟩).trans (by kernel_rfl)
theorem poly_weighed.eq (a0 : AV) (a1 : AV) (a2 : AV) (a3 : AV) : cv gp fid.poly_weighed [a0, a1, a2, a3] = poly_weighed.f a0 a1 a2 a3 :=
  (cv_eq gp fid.poly_weighed [a0, a1, a2, a3] poly_weighed.fn_eq).trans (by kernel_rfl)

/-! gusset poly.sum -/
noncomputable def poly_sum.fn : AFun := (gp.fn fid.poly_sum).getD default
theorem poly_sum.fn_eq : gp.fn fid.poly_sum = some poly_sum.fn := by kernel_rfl
noncomputable def poly_sum.f (a0 : AV) (a1 : AV) : Option AV :=
  (opBox [] a0).bind fun r1 => (opBox r1.2 a1).bind fun r2 => (opLoad (@HAppend.hAppend Heap Heap Heap _ r2.2 [some [.bool false, .str ⟨#[]⟩, .str ⟨#[]⟩]]) (some 3) r1.1).bind fun v3 => (opLoad (@HAppend.hAppend Heap Heap Heap _ r2.2 [some [.bool false, .str ⟨#[]⟩, .str ⟨#[]⟩]]) (some 3) r2.1).bind fun v4 => (byVal (callW gp) (@HAppend.hAppend Heap Heap Heap _ r2.2 [some [.bool false, .str ⟨#[]⟩, .str ⟨#[]⟩]]) fid.rat_Add [v3, v4]).bind fun v5 => (opExt 0 v5).bind fun v6 => (opExt 1 v5).bind fun v7 => (opStore (@HAppend.hAppend Heap Heap Heap _ (@HAppend.hAppend Heap Heap Heap _ r2.2 [some [.bool false, .str ⟨#[]⟩, .str ⟨#[]⟩]]) [some [.bool false, .str ⟨#[]⟩, .str ⟨#[]⟩]]) 3 (.rp (List.length ((@HAppend.hAppend Heap Heap Heap _ r2.2 [some [.bool false, .str ⟨#[]⟩, .str ⟨#[]⟩]]) : Heap)) 0) v6).bind fun h8 => (opLoad h8 (some 3) (.rp (List.length ((@HAppend.hAppend Heap Heap Heap _ r2.2 [some [.bool false, .str ⟨#[]⟩, .str ⟨#[]⟩]]) : Heap)) 0)).bind fun v9 => (opStore h8 3 (.rp (List.length (r2.2 : Heap)) 0) v9).bind fun h10 => (opLoad h10 (some 3) (.rp (List.length (r2.2 : Heap)) 0)).bind fun v11 => freeze h10 v11
theorem poly_sum.eq (a0 : AV) (a1 : AV) : cv gp fid.poly_sum [a0, a1] = poly_sum.f a0 a1 :=
  (cv_eq gp fid.poly_sum [a0, a1] poly_sum.fn_eq).trans (by kernel_rfl)

/-! gusset poly.product -/
noncomputable def poly_product.fn : AFun := (gp.fn fid.poly_product).getD default
theorem poly_product.fn_eq : gp.fn fid.poly_product = some poly_product.fn := by kernel_rfl
noncomputable def poly_product.f (a0 : AV) (a1 : AV) : Option AV :=
  (opBox [] a0).bind fun r1 => (opBox r1.2 a1).bind fun r2 => (opLoad (@HAppend.hAppend Heap Heap Heap _ r2.2 [some [.bool false, .str ⟨#[]⟩, .str ⟨#[]⟩]]) (some 3) r1.1).bind fun v3 => (opLoad (@HAppend.hAppend Heap Heap Heap _ r2.2 [some [.bool false, .str ⟨#[]⟩, .str ⟨#[]⟩]]) (some 3) r2.1).bind fun v4 => (byVal (callW gp) (@HAppend.hAppend Heap Heap Heap _ r2.2 [some [.bool false, .str ⟨#[]⟩, .str ⟨#[]⟩]]) fid.rat_Mul [v3, v4]).bind fun v5 => (opExt 0 v5).bind fun v6 => (opExt 1 v5).bind fun v7 => (opStore (@HAppend.hAppend Heap Heap Heap _ (@HAppend.hAppend Heap Heap Heap _ r2.2 [some [.bool false, .str ⟨#[]⟩, .str ⟨#[]⟩]]) [some [.bool false, .str ⟨#[]⟩, .str ⟨#[]⟩]]) 3 (.rp (List.length ((@HAppend.hAppend Heap Heap Heap _ r2.2 [some [.bool false, .str ⟨#[]⟩, .str ⟨#[]⟩]]) : Heap)) 0) v6).bind fun h8 => (opLoad h8 (some 3) (.rp (List.length ((@HAppend.hAppend Heap Heap Heap _ r2.2 [some [.bool false, .str ⟨#[]⟩, .str ⟨#[]⟩]]) : Heap)) 0)).bind fun v9 => (opStore h8 3 (.rp (List.length (r2.2 : Heap)) 0) v9).bind fun h10 => (opLoad h10 (some 3) (.rp (List.length (r2.2 : Heap)) 0)).bind fun v11 => freeze h10 v11
theorem poly_product.eq (a0 : AV) (a1 : AV) : cv gp fid.poly_product [a0, a1] = poly_product.f a0 a1 :=
  (cv_eq gp fid.poly_product [a0, a1] poly_product.fn_eq).trans (by kernel_rfl)

/-! gusset gussetref07.weigh -/
noncomputable def gussetref07_weigh.fn : AFun := (gp.fn fid.gussetref07_weigh).getD default
theorem gussetref07_weigh.fn_eq : gp.fn fid.gussetref07_weigh = some gussetref07_weigh.fn := by kernel_rfl
noncomputable def gussetref07_weigh.l1 (y2 : AV) (y3 : AV) (y4 : AV) (y5 : AV) (y6 : AV) (y7 : AV) (hh : Heap) : Option AV := loopAt gp gussetref07_weigh.fn [true, true, false, true, false, false, true, false, false, true, false] (fun v h => freeze h v) ⟨frame 41 [(2, y2), (3, y3), (4, y4), (5, y5), (6, y6), (7, y7)], hh⟩
noncomputable def gussetref07_weigh.l0 (y2 : AV) (y3 : AV) (y4 : AV) (y5 : AV) (y6 : AV) (hh : Heap) : Option AV := loopAt gp gussetref07_weigh.fn [true, true, false, true, false] (fun v h => freeze h v) ⟨frame 41 [(2, y2), (3, y3), (4, y4), (5, y5), (6, y6)], hh⟩
noncomputable def gussetref07_weigh.f (a0 : AV) (a1 : AV) : Option AV :=
  (opBox [] a0).bind fun r1 => (opBox r1.2 a1).bind fun r2 => (byVal (callW gp) (@HAppend.hAppend Heap Heap Heap _ r2.2 [some [.bool false, .str ⟨#[]⟩, .str ⟨#[]⟩]]) fid.gussetref03_Of [(.int .i64 0)]).bind fun v3 => (opStore (@HAppend.hAppend Heap Heap Heap _ (@HAppend.hAppend Heap Heap Heap _ r2.2 [some [.bool false, .str ⟨#[]⟩, .str ⟨#[]⟩]]) [some [.bool false, .str ⟨#[]⟩, .str ⟨#[]⟩]]) 3 (.rp (List.length ((@HAppend.hAppend Heap Heap Heap _ r2.2 [some [.bool false, .str ⟨#[]⟩, .str ⟨#[]⟩]]) : Heap)) 0) v3).bind fun h4 => gussetref07_weigh.l0 r1.1 r2.1 (.rp (List.length (r2.2 : Heap)) 0) (.rp (List.length ((@HAppend.hAppend Heap Heap Heap _ r2.2 [some [.bool false, .str ⟨#[]⟩, .str ⟨#[]⟩]]) : Heap)) 0) (.int .i64 0) h4
theorem gussetref07_weigh.l1_eq (y2 : AV) (y3 : AV) (y4 : AV) (y5 : AV) (y6 : AV) (y7 : AV) (hh : Heap) : gussetref07_weigh.l1 y2 y3 y4 y5 y6 y7 hh =
    ((opBin .lss y7 (.int .i64 3)).bind fun v6 => condK v6 ((opLoad hh (some 3) y3).bind fun v7 => (opStore (@HAppend.hAppend Heap Heap Heap _ hh [some [.int .i64 0, .int .i64 0, .int .i64 0]]) 3 (.rp (List.length (hh : Heap)) 0) v7).bind fun h8 => (opAidx 1 3 (.rp (List.length (hh : Heap)) 0) y6).bind fun v9 => (opLoad h8 none v9).bind fun v10 => (opBin .add v10 (.int .i64 1)).bind fun v11 => (opAidx 1 3 (.rp (List.length (hh : Heap)) 0) y6).bind fun v12 => (opStore h8 1 v12 v11).bind fun h13 => (opAidx 1 3 (.rp (List.length (hh : Heap)) 0) y7).bind fun v14 => (opLoad h13 none v14).bind fun v15 => (opBin .add v15 (.int .i64 1)).bind fun v16 => (opAidx 1 3 (.rp (List.length (hh : Heap)) 0) y7).bind fun v17 => (opStore h13 1 v17 v16).bind fun h18 => (opLoad h18 (some 3) y5).bind fun v19 => (opAidx 9 3 y2 y6).bind fun v20 => (opAidx 3 3 v20 y7).bind fun v21 => (opLoad h18 (some 3) v21).bind fun v22 => (opLoad h18 (some 3) (.rp (List.length (hh : Heap)) 0)).bind fun v23 => (byVal (callW gp) h18 fid.gussetref07_power [v23]).bind fun v24 => (byVal (callW gp) h18 fid.gussetref03_Times [v22, v24]).bind fun v25 => (byVal (callW gp) h18 fid.gussetref03_Sum [v19, v25]).bind fun v26 => (opStore h18 3 y5 v26).bind fun h27 => (opBin .add y7 (.int .i64 1)).bind fun v28 => gussetref07_weigh.l1 y2 y3 y4 y5 y6 v28 h27) ((opBin .add y6 (.int .i64 1)).bind fun v29 => gussetref07_weigh.l0 y2 y3 y4 y5 v29 hh)) :=
  (loopAt_eq gp gussetref07_weigh.fn [true, true, false, true, false, false, true, false, false, true, false] (fun v h => freeze h v) ⟨frame 41 [(2, y2), (3, y3), (4, y4), (5, y5), (6, y6), (7, y7)], hh⟩).trans (by kernel_rfl)
theorem gussetref07_weigh.l0_eq (y2 : AV) (y3 : AV) (y4 : AV) (y5 : AV) (y6 : AV) (hh : Heap) : gussetref07_weigh.l0 y2 y3 y4 y5 y6 hh =
    ((opBin .lss y6 (.int .i64 3)).bind fun v5 => condK v5 (gussetref07_weigh.l1 y2 y3 y4 y5 y6 y6 hh) ((opLoad hh (some 3) y5).bind fun v30 => (opStore hh 3 y4 v30).bind fun h31 => (opLoad h31 (some 3) y4).bind fun v32 => freeze h31 v32)) :=
  (loopAt_eq gp gussetref07_weigh.fn [true, true, false, true, false] (fun v h => freeze h v) ⟨frame 41 [(2, y2), (3, y3), (4, y4), (5, y5), (6, y6)], hh⟩).trans (by kernel_rfl)
theorem gussetref07_weigh.eq (a0 : AV) (a1 : AV) : cv gp fid.gussetref07_weigh [a0, a1] = gussetref07_weigh.f a0 a1 :=
  (cv_eq gp fid.gussetref07_weigh [a0, a1] gussetref07_weigh.fn_eq).trans (by kernel_rfl)

/-! gusset gussetref07.one -/
noncomputable def gussetref07_one.fn : AFun := (gp.fn fid.gussetref07_one).getD default
theorem gussetref07_one.fn_eq : gp.fn fid.gussetref07_one = some gussetref07_one.fn := by kernel_rfl
noncomputable def gussetref07_one.f (a0 : AV) : Option AV :=
  (opBox [] a0).bind fun r1 => (opFaddr 0 r1.1).bind fun v2 => (opFaddr 1 v2).bind fun v3 => (opLoad r1.2 none v3).bind fun v4 => (opLen true v4).bind fun v5 => (opBin .gtr v5 (.int .i64 100)).bind fun v6 => guardK v6 false ((opFaddr 2 r1.1).bind fun v7 => (opLoad r1.2 none v7).bind fun v8 => (opLen true v8).bind fun v9 => (opBin .gtr v9 (.int .i64 100)).bind fun v10 => condK v10 (freeze r1.2 (.int .i64 5)) ((opLoad r1.2 (some 3) r1.1).bind fun v11 => (byVal (callW gp) r1.2 fid.gussetref03_Check [v11]).bind fun v12 => freeze r1.2 v12)) (freeze r1.2 (.int .i64 5))
theorem gussetref07_one.eq (a0 : AV) : cv gp fid.gussetref07_one [a0] = gussetref07_one.f a0 :=
  (cv_eq gp fid.gussetref07_one [a0] gussetref07_one.fn_eq).trans (by kernel_rfl)

/-! gusset poly.asked -/
noncomputable def poly_asked.fn : AFun := (gp.fn fid.poly_asked).getD default
theorem poly_asked.fn_eq : gp.fn fid.poly_asked = some poly_asked.fn := by kernel_rfl
noncomputable def poly_asked.l0 (y6 : AV) (y7 : AV) (y8 : AV) (hh : Heap) : Option AV := loopAt gp poly_asked.fn [true, false, true, false] (fun v h => freeze h v) ⟨frame 29 [(6, y6), (7, y7), (8, y8)], hh⟩
noncomputable def poly_asked.f (a0 : AV) : Option AV :=
  (opLen false a0).bind fun v1 => poly_asked.l0 a0 v1 (.int .i64 0) []
theorem poly_asked.l0_eq (y6 : AV) (y7 : AV) (y8 : AV) (hh : Heap) : poly_asked.l0 y6 y7 y8 hh =
    ((opBin .lss y8 y7).bind fun v2 => condK v2 ((opSidx 3 y6 y8).bind fun v3 => (opLoad hh (some 3) v3).bind fun v4 => (opStore (@HAppend.hAppend Heap Heap Heap _ hh [some [.bool false, .str ⟨#[]⟩, .str ⟨#[]⟩]]) 3 (.rp (List.length (hh : Heap)) 0) v4).bind fun h5 => (opFaddr 0 (.rp (List.length (hh : Heap)) 0)).bind fun v6 => (opFaddr 1 v6).bind fun v7 => (opLoad h5 none v7).bind fun v8 => (opLen true v8).bind fun v9 => (opBin .gtr v9 (.int .i64 100)).bind fun v10 => guardK v10 false ((opFaddr 2 (.rp (List.length (hh : Heap)) 0)).bind fun v11 => (opLoad h5 none v11).bind fun v12 => (opLen true v12).bind fun v13 => (opBin .gtr v13 (.int .i64 100)).bind fun v14 => condK v14 (freeze h5 (.int .i64 5)) ((opLoad h5 (some 3) (.rp (List.length (hh : Heap)) 0)).bind fun v15 => (byVal (callW gp) h5 fid.rat_Check [v15]).bind fun v16 => (opBin .neq v16 (.int .i64 0)).bind fun v17 => condK v17 (freeze h5 v16) ((opBin .add y8 (.int .i64 1)).bind fun v18 => poly_asked.l0 y6 y7 v18 h5))) (freeze h5 (.int .i64 5))) (freeze hh (.int .i64 0))) :=
  (loopAt_eq gp poly_asked.fn [true, false, true, false] (fun v h => freeze h v) ⟨frame 29 [(6, y6), (7, y7), (8, y8)], hh⟩).trans (by kernel_rfl)
theorem poly_asked.eq (a0 : AV) : cv gp fid.poly_asked [a0] = poly_asked.f a0 :=
  (cv_eq gp fid.poly_asked [a0] poly_asked.fn_eq).trans (by kernel_rfl)

/-! gusset poly.eval -/
noncomputable def poly_eval.fn : AFun := (gp.fn fid.poly_eval).getD default
theorem poly_eval.fn_eq : gp.fn fid.poly_eval = some poly_eval.fn := by kernel_rfl
noncomputable def poly_eval.f (a0 : AV) (a1 : AV) : Option AV :=
  (opBox [] a0).bind fun r1 => (opBox r1.2 a1).bind fun r2 => (opAidx 3 6 r1.1 (.int .i64 1)).bind fun v3 => (opLoad (@HAppend.hAppend Heap Heap Heap _ r2.2 [some [.bool false, .str ⟨#[]⟩, .str ⟨#[]⟩]]) (some 3) v3).bind fun v4 => (opAidx 3 6 r1.1 (.int .i64 3)).bind fun v5 => (opLoad (@HAppend.hAppend Heap Heap Heap _ r2.2 [some [.bool false, .str ⟨#[]⟩, .str ⟨#[]⟩]]) (some 3) v5).bind fun v6 => (opFaddr 0 r2.1).bind fun v7 => (opLoad (@HAppend.hAppend Heap Heap Heap _ r2.2 [some [.bool false, .str ⟨#[]⟩, .str ⟨#[]⟩]]) (some 3) v7).bind fun v8 => (byVal (callW gp) (@HAppend.hAppend Heap Heap Heap _ r2.2 [some [.bool false, .str ⟨#[]⟩, .str ⟨#[]⟩]]) fid.poly_product [v6, v8]).bind fun v9 => (opAidx 3 6 r1.1 (.int .i64 4)).bind fun v10 => (opLoad (@HAppend.hAppend Heap Heap Heap _ r2.2 [some [.bool false, .str ⟨#[]⟩, .str ⟨#[]⟩]]) (some 3) v10).bind fun v11 => (opFaddr 3 r2.1).bind fun v12 => (opLoad (@HAppend.hAppend Heap Heap Heap _ r2.2 [some [.bool false, .str ⟨#[]⟩, .str ⟨#[]⟩]]) (some 3) v12).bind fun v13 => (byVal (callW gp) (@HAppend.hAppend Heap Heap Heap _ r2.2 [some [.bool false, .str ⟨#[]⟩, .str ⟨#[]⟩]]) fid.poly_product [v11, v13]).bind fun v14 => (byVal (callW gp) (@HAppend.hAppend Heap Heap Heap _ r2.2 [some [.bool false, .str ⟨#[]⟩, .str ⟨#[]⟩]]) fid.poly_sum [v9, v14]).bind fun v15 => (byVal (callW gp) (@HAppend.hAppend Heap Heap Heap _ r2.2 [some [.bool false, .str ⟨#[]⟩, .str ⟨#[]⟩]]) fid.poly_sum [v4, v15]).bind fun v16 => (opStore (@HAppend.hAppend Heap Heap Heap _ (@HAppend.hAppend Heap Heap Heap _ r2.2 [some [.bool false, .str ⟨#[]⟩, .str ⟨#[]⟩]]) [some [.bool false, .str ⟨#[]⟩, .str ⟨#[]⟩]]) 3 (.rp (List.length ((@HAppend.hAppend Heap Heap Heap _ r2.2 [some [.bool false, .str ⟨#[]⟩, .str ⟨#[]⟩]]) : Heap)) 0) v16).bind fun h17 => (opAidx 3 6 r1.1 (.int .i64 2)).bind fun v18 => (opLoad h17 (some 3) v18).bind fun v19 => (opAidx 3 6 r1.1 (.int .i64 5)).bind fun v20 => (opLoad h17 (some 3) v20).bind fun v21 => (opFaddr 3 r2.1).bind fun v22 => (opLoad h17 (some 3) v22).bind fun v23 => (byVal (callW gp) h17 fid.poly_product [v21, v23]).bind fun v24 => (byVal (callW gp) h17 fid.poly_sum [v19, v24]).bind fun v25 => (opStore (@HAppend.hAppend Heap Heap Heap _ h17 [some [.bool false, .str ⟨#[]⟩, .str ⟨#[]⟩]]) 3 (.rp (List.length (h17 : Heap)) 0) v25).bind fun h26 => (opAidx 3 6 r1.1 (.int .i64 0)).bind fun v27 => (opLoad h26 (some 3) v27).bind fun v28 => (opLoad h26 (some 3) (.rp (List.length ((@HAppend.hAppend Heap Heap Heap _ r2.2 [some [.bool false, .str ⟨#[]⟩, .str ⟨#[]⟩]]) : Heap)) 0)).bind fun v29 => (opFaddr 0 r2.1).bind fun v30 => (opLoad h26 (some 3) v30).bind fun v31 => (byVal (callW gp) h26 fid.poly_product [v29, v31]).bind fun v32 => (opLoad h26 (some 3) (.rp (List.length (h17 : Heap)) 0)).bind fun v33 => (opFaddr 3 r2.1).bind fun v34 => (opLoad h26 (some 3) v34).bind fun v35 => (byVal (callW gp) h26 fid.poly_product [v33, v35]).bind fun v36 => (byVal (callW gp) h26 fid.poly_sum [v32, v36]).bind fun v37 => (byVal (callW gp) h26 fid.poly_sum [v28, v37]).bind fun v38 => (opStore h26 3 (.rp (List.length (r2.2 : Heap)) 0) v38).bind fun h39 => (opLoad h39 (some 3) (.rp (List.length (r2.2 : Heap)) 0)).bind fun v40 => freeze h39 v40
theorem poly_eval.eq (a0 : AV) (a1 : AV) : cv gp fid.poly_eval [a0, a1] = poly_eval.f a0 a1 :=
  (cv_eq gp fid.poly_eval [a0, a1] poly_eval.fn_eq).trans (by kernel_rfl)

/-! gusset gussetref07.factorial -/
noncomputable def gussetref07_factorial.fn : AFun := (gp.fn fid.gussetref07_factorial).getD default
theorem gussetref07_factorial.fn_eq : gp.fn fid.gussetref07_factorial = some gussetref07_factorial.fn := by kernel_rfl
noncomputable def gussetref07_factorial.l0 (y0 : AV) (y3 : AV) (y4 : AV) : Option AV := loopAt gp gussetref07_factorial.fn [true, true, false, true, false] (fun v h => freeze h v) ⟨frame 14 [(0, y0), (3, y3), (4, y4)], []⟩
noncomputable def gussetref07_factorial.f (a0 : AV) : Option AV :=
  gussetref07_factorial.l0 a0 (.int .i64 1) (.int .i64 2)
theorem gussetref07_factorial.l0_eq (y0 : AV) (y3 : AV) (y4 : AV) : gussetref07_factorial.l0 y0 y3 y4 =
    ((opBin .leq y4 y0).bind fun v1 => condK v1 ((opBin .mul y3 y4).bind fun v2 => (opBin .add y4 (.int .i64 1)).bind fun v3 => gussetref07_factorial.l0 y0 v2 v3) (freeze [] y3)) :=
  (loopAt_eq gp gussetref07_factorial.fn [true, true, false, true, false] (fun v h => freeze h v) ⟨frame 14 [(0, y0), (3, y3), (4, y4)], []⟩).trans (by kernel_rfl)
theorem gussetref07_factorial.eq (a0 : AV) : cv gp fid.gussetref07_factorial [a0] = gussetref07_factorial.f a0 :=
  (cv_eq gp fid.gussetref07_factorial [a0] gussetref07_factorial.fn_eq).trans (by kernel_rfl)

end Go.Proofs.YtcpmkohlmjakmaaGreatDoor.Am