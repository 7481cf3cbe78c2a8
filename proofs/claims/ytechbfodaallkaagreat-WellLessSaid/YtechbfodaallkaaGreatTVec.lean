import Derived.Test.YtechbfodaallkaaGreatAmGp
set_option linter.unusedVariables false
set_option maxRecDepth 10000
set_option maxHeartbeats 0
namespace Go.Proofs.YtechbfodaallkaaGreat.Am
open Go
/-! gusset gussetref04.Check -/
/-! gusset gussetref04.Plus -/
/-! gusset gussetref04.Scale -/
/-! gusset vec.Norm2 -/
/-! gusset vec.Scale -/
/-! gusset vec.Plus -/
/-! gusset vec.Check -/
noncomputable def vec_Check.fn : AFun := (gp.fn fid.vec_Check).getD default
theorem vec_Check.fn_eq : gp.fn fid.vec_Check = some vec_Check.fn := by kernel_rfl
noncomputable def vec_Check.f (a0 : AV) : Option AV :=
  (opBox [] a0).bind fun r1 => (opFaddr 0 r1.1).bind fun v2 => (opLoad r1.2 (some 3) v2).bind fun v3 => (opFaddr 3 r1.1).bind fun v4 => (opLoad r1.2 (some 3) v4).bind fun v5 => (opBslc 3 2 [.bool false, .str ⟨#[]⟩, .str ⟨#[]⟩] [(0, v3), (1, v5)]).bind fun v6 => (byVal (callW gp) r1.2 fid.vec_numbers [v6]).bind fun v7 => freeze r1.2 v7
theorem vec_Check.eq (a0 : AV) : cv gp fid.vec_Check [a0] = vec_Check.f a0 :=
  (cv_eq gp fid.vec_Check [a0] vec_Check.fn_eq).trans (by kernel_rfl)

/-! gusset vec.Minus -/
noncomputable def vec_Minus.fn : AFun := (gp.fn fid.vec_Minus).getD default
theorem vec_Minus.fn_eq : gp.fn fid.vec_Minus = some vec_Minus.fn := by kernel_rfl
noncomputable def vec_Minus.f (a0 : AV) (a1 : AV) : Option AV :=
  (opBox [] a0).bind fun r1 => (opBox r1.2 a1).bind fun r2 => (opLoad (@HAppend.hAppend Heap Heap Heap _ r2.2 [some [.bool false, .str ⟨#[]⟩, .str ⟨#[]⟩, .bool false, .str ⟨#[]⟩, .str ⟨#[]⟩]]) (some 6) r1.1).bind fun v3 => (opLoad (@HAppend.hAppend Heap Heap Heap _ r2.2 [some [.bool false, .str ⟨#[]⟩, .str ⟨#[]⟩, .bool false, .str ⟨#[]⟩, .str ⟨#[]⟩]]) (some 6) r2.1).bind fun v4 => (byVal (callW gp) (@HAppend.hAppend Heap Heap Heap _ r2.2 [some [.bool false, .str ⟨#[]⟩, .str ⟨#[]⟩, .bool false, .str ⟨#[]⟩, .str ⟨#[]⟩]]) fid.vec_each [v3, v4, (.fn fid.rat_Sub [])]).bind fun v5 => (opExt 0 v5).bind fun v6 => (opExt 1 v5).bind fun v7 => (opStore (@HAppend.hAppend Heap Heap Heap _ r2.2 [some [.bool false, .str ⟨#[]⟩, .str ⟨#[]⟩, .bool false, .str ⟨#[]⟩, .str ⟨#[]⟩]]) 6 (.rp (List.length (r2.2 : Heap)) 0) v6).bind fun h8 => (opLoad h8 (some 6) (.rp (List.length (r2.2 : Heap)) 0)).bind fun v9 => freeze h8 (.tup [v9, v7])
theorem vec_Minus.eq (a0 : AV) (a1 : AV) : cv gp fid.vec_Minus [a0, a1] = vec_Minus.f a0 a1 :=
  (cv_eq gp fid.vec_Minus [a0, a1] vec_Minus.fn_eq).trans (by kernel_rfl)

/-! gusset vec.Dot -/
noncomputable def vec_Dot.fn : AFun := (gp.fn fid.vec_Dot).getD default
theorem vec_Dot.fn_eq : gp.fn fid.vec_Dot = some vec_Dot.fn := by kernel_rfl
noncomputable def vec_Dot.f (a0 : AV) (a1 : AV) : Option AV :=
  (opBox [] a0).bind fun r1 => (opBox r1.2 a1).bind fun r2 => (opFaddr 0 r1.1).bind fun v3 => (opLoad (@HAppend.hAppend Heap Heap Heap _ r2.2 [some [.bool false, .str ⟨#[]⟩, .str ⟨#[]⟩]]) (some 3) v3).bind fun v4 => (opFaddr 0 r2.1).bind fun v5 => (opLoad (@HAppend.hAppend Heap Heap Heap _ r2.2 [some [.bool false, .str ⟨#[]⟩, .str ⟨#[]⟩]]) (some 3) v5).bind fun v6 => (opFaddr 3 r1.1).bind fun v7 => (opLoad (@HAppend.hAppend Heap Heap Heap _ r2.2 [some [.bool false, .str ⟨#[]⟩, .str ⟨#[]⟩]]) (some 3) v7).bind fun v8 => (opFaddr 3 r2.1).bind fun v9 => (opLoad (@HAppend.hAppend Heap Heap Heap _ r2.2 [some [.bool false, .str ⟨#[]⟩, .str ⟨#[]⟩]]) (some 3) v9).bind fun v10 => (byVal (callW gp) (@HAppend.hAppend Heap Heap Heap _ r2.2 [some [.bool false, .str ⟨#[]⟩, .str ⟨#[]⟩]]) fid.vec_pair [v4, v6, v8, v10, (.fn fid.rat_Add [])]).bind fun v11 => (opExt 0 v11).bind fun v12 => (opExt 1 v11).bind fun v13 => (opStore (@HAppend.hAppend Heap Heap Heap _ r2.2 [some [.bool false, .str ⟨#[]⟩, .str ⟨#[]⟩]]) 3 (.rp (List.length (r2.2 : Heap)) 0) v12).bind fun h14 => (opLoad h14 (some 3) (.rp (List.length (r2.2 : Heap)) 0)).bind fun v15 => freeze h14 (.tup [v15, v13])
theorem vec_Dot.eq (a0 : AV) (a1 : AV) : cv gp fid.vec_Dot [a0, a1] = vec_Dot.f a0 a1 :=
  (cv_eq gp fid.vec_Dot [a0, a1] vec_Dot.fn_eq).trans (by kernel_rfl)

/-! gusset vec.numbers -/
noncomputable def vec_numbers.fn : AFun := (gp.fn fid.vec_numbers).getD default
theorem vec_numbers.fn_eq : gp.fn fid.vec_numbers = some vec_numbers.fn := by kernel_rfl
noncomputable def vec_numbers.l0 (y6 : AV) (y7 : AV) (y8 : AV) (hh : Heap) : Option AV := loopAt gp vec_numbers.fn [true, false, true, false] (fun v h => freeze h v) ⟨frame 18 [(6, y6), (7, y7), (8, y8)], hh⟩
noncomputable def vec_numbers.f (a0 : AV) : Option AV :=
  (opLen false a0).bind fun v1 => vec_numbers.l0 a0 v1 (.int .i64 0) []
theorem vec_numbers.l0_eq (y6 : AV) (y7 : AV) (y8 : AV) (hh : Heap) : vec_numbers.l0 y6 y7 y8 hh =
    ((opBin .lss y8 y7).bind fun v2 => condK v2 ((opSidx 3 y6 y8).bind fun v3 => (opLoad hh (some 3) v3).bind fun v4 => (opStore (@HAppend.hAppend Heap Heap Heap _ hh [some [.bool false, .str ⟨#[]⟩, .str ⟨#[]⟩]]) 3 (.rp (List.length (hh : Heap)) 0) v4).bind fun h5 => (opLoad h5 (some 3) (.rp (List.length (hh : Heap)) 0)).bind fun v6 => (byVal (callW gp) h5 fid.rat_Check [v6]).bind fun v7 => (opBin .neq v7 (.int .i64 0)).bind fun v8 => condK v8 (freeze h5 v7) ((opBin .add y8 (.int .i64 1)).bind fun v9 => vec_numbers.l0 y6 y7 v9 h5)) (freeze hh (.int .i64 0))) :=
  (loopAt_eq gp vec_numbers.fn [true, false, true, false] (fun v h => freeze h v) ⟨frame 18 [(6, y6), (7, y7), (8, y8)], hh⟩).trans (by kernel_rfl)
theorem vec_numbers.eq (a0 : AV) : cv gp fid.vec_numbers [a0] = vec_numbers.f a0 :=
  (cv_eq gp fid.vec_numbers [a0] vec_numbers.fn_eq).trans (by kernel_rfl)

/-! gusset vec.Cross -/
noncomputable def vec_Cross.fn : AFun := (gp.fn fid.vec_Cross).getD default
theorem vec_Cross.fn_eq : gp.fn fid.vec_Cross = some vec_Cross.fn := by kernel_rfl
noncomputable def vec_Cross.f (a0 : AV) (a1 : AV) : Option AV :=
  (opBox [] a0).bind fun r1 => (opBox r1.2 a1).bind fun r2 => (opLoad (@HAppend.hAppend Heap Heap Heap _ r2.2 [some [.bool false, .str ⟨#[]⟩, .str ⟨#[]⟩]]) (some 6) r1.1).bind fun v3 => (opLoad (@HAppend.hAppend Heap Heap Heap _ r2.2 [some [.bool false, .str ⟨#[]⟩, .str ⟨#[]⟩]]) (some 6) r2.1).bind fun v4 => (opBslc 6 2 [.bool false, .str ⟨#[]⟩, .str ⟨#[]⟩, .bool false, .str ⟨#[]⟩, .str ⟨#[]⟩] [(0, v3), (1, v4)]).bind fun v5 => (byVal (callW gp) (@HAppend.hAppend Heap Heap Heap _ r2.2 [some [.bool false, .str ⟨#[]⟩, .str ⟨#[]⟩]]) fid.vec_points [v5]).bind fun v6 => (opBin .neq v6 (.int .i64 0)).bind fun v7 => condK v7 ((opBld [.bool false, .str ⟨#[]⟩, .str ⟨#[]⟩] []).bind fun v8 => (opStore (@HAppend.hAppend Heap Heap Heap _ r2.2 [some [.bool false, .str ⟨#[]⟩, .str ⟨#[]⟩]]) 3 (.rp (List.length (r2.2 : Heap)) 0) v8).bind fun h9 => (opLoad h9 (some 3) (.rp (List.length (r2.2 : Heap)) 0)).bind fun v10 => freeze h9 (.tup [v10, v6])) ((opFaddr 0 r1.1).bind fun v11 => (opLoad (@HAppend.hAppend Heap Heap Heap _ r2.2 [some [.bool false, .str ⟨#[]⟩, .str ⟨#[]⟩]]) (some 3) v11).bind fun v12 => (opFaddr 3 r2.1).bind fun v13 => (opLoad (@HAppend.hAppend Heap Heap Heap _ r2.2 [some [.bool false, .str ⟨#[]⟩, .str ⟨#[]⟩]]) (some 3) v13).bind fun v14 => (opFaddr 3 r1.1).bind fun v15 => (opLoad (@HAppend.hAppend Heap Heap Heap _ r2.2 [some [.bool false, .str ⟨#[]⟩, .str ⟨#[]⟩]]) (some 3) v15).bind fun v16 => (opFaddr 0 r2.1).bind fun v17 => (opLoad (@HAppend.hAppend Heap Heap Heap _ r2.2 [some [.bool false, .str ⟨#[]⟩, .str ⟨#[]⟩]]) (some 3) v17).bind fun v18 => (byVal (callW gp) (@HAppend.hAppend Heap Heap Heap _ r2.2 [some [.bool false, .str ⟨#[]⟩, .str ⟨#[]⟩]]) fid.vec_pair [v12, v14, v16, v18, (.fn fid.rat_Sub [])]).bind fun v19 => (opExt 0 v19).bind fun v20 => (opExt 1 v19).bind fun v21 => (opStore (@HAppend.hAppend Heap Heap Heap _ r2.2 [some [.bool false, .str ⟨#[]⟩, .str ⟨#[]⟩]]) 3 (.rp (List.length (r2.2 : Heap)) 0) v20).bind fun h22 => (opLoad h22 (some 3) (.rp (List.length (r2.2 : Heap)) 0)).bind fun v23 => freeze h22 (.tup [v23, v21]))
theorem vec_Cross.eq (a0 : AV) (a1 : AV) : cv gp fid.vec_Cross [a0, a1] = vec_Cross.f a0 a1 :=
  (cv_eq gp fid.vec_Cross [a0, a1] vec_Cross.fn_eq).trans (by kernel_rfl)

/-! gusset vec.each -/
noncomputable def vec_each.fn : AFun := (gp.fn fid.vec_each).getD default
theorem vec_each.fn_eq : gp.fn fid.vec_each = some vec_each.fn := by kernel_rfl
noncomputable def vec_each.f (a0 : AV) (a1 : AV) (a2 : AV) : Option AV :=
  (opBox [] a0).bind fun r1 => (opBox r1.2 a1).bind fun r2 => (opLoad (@HAppend.hAppend Heap Heap Heap _ r2.2 [some [.bool false, .str ⟨#[]⟩, .str ⟨#[]⟩, .bool false, .str ⟨#[]⟩, .str ⟨#[]⟩]]) (some 6) r1.1).bind fun v3 => (opLoad (@HAppend.hAppend Heap Heap Heap _ r2.2 [some [.bool false, .str ⟨#[]⟩, .str ⟨#[]⟩, .bool false, .str ⟨#[]⟩, .str ⟨#[]⟩]]) (some 6) r2.1).bind fun v4 => (opBslc 6 2 [.bool false, .str ⟨#[]⟩, .str ⟨#[]⟩, .bool false, .str ⟨#[]⟩, .str ⟨#[]⟩] [(0, v3), (1, v4)]).bind fun v5 => (byVal (callW gp) (@HAppend.hAppend Heap Heap Heap _ r2.2 [some [.bool false, .str ⟨#[]⟩, .str ⟨#[]⟩, .bool false, .str ⟨#[]⟩, .str ⟨#[]⟩]]) fid.vec_points [v5]).bind fun v6 => (opBin .neq v6 (.int .i64 0)).bind fun v7 => condK v7 ((opBld [.bool false, .str ⟨#[]⟩, .str ⟨#[]⟩, .bool false, .str ⟨#[]⟩, .str ⟨#[]⟩] []).bind fun v8 => (opStore (@HAppend.hAppend Heap Heap Heap _ r2.2 [some [.bool false, .str ⟨#[]⟩, .str ⟨#[]⟩, .bool false, .str ⟨#[]⟩, .str ⟨#[]⟩]]) 6 (.rp (List.length (r2.2 : Heap)) 0) v8).bind fun h9 => (opLoad h9 (some 6) (.rp (List.length (r2.2 : Heap)) 0)).bind fun v10 => freeze h9 (.tup [v10, v6])) ((opFaddr 0 r1.1).bind fun v11 => (opLoad (@HAppend.hAppend Heap Heap Heap _ r2.2 [some [.bool false, .str ⟨#[]⟩, .str ⟨#[]⟩, .bool false, .str ⟨#[]⟩, .str ⟨#[]⟩]]) (some 3) v11).bind fun v12 => (opFaddr 0 r2.1).bind fun v13 => (opLoad (@HAppend.hAppend Heap Heap Heap _ r2.2 [some [.bool false, .str ⟨#[]⟩, .str ⟨#[]⟩, .bool false, .str ⟨#[]⟩, .str ⟨#[]⟩]]) (some 3) v13).bind fun v14 => (byVal (callW gp) (@HAppend.hAppend Heap Heap Heap _ r2.2 [some [.bool false, .str ⟨#[]⟩, .str ⟨#[]⟩, .bool false, .str ⟨#[]⟩, .str ⟨#[]⟩]]) fid.vec_op_of [a2, v12, v14]).bind fun v15 => (opFaddr 3 r1.1).bind fun v16 => (opLoad (@HAppend.hAppend Heap Heap Heap _ r2.2 [some [.bool false, .str ⟨#[]⟩, .str ⟨#[]⟩, .bool false, .str ⟨#[]⟩, .str ⟨#[]⟩]]) (some 3) v16).bind fun v17 => (opFaddr 3 r2.1).bind fun v18 => (opLoad (@HAppend.hAppend Heap Heap Heap _ r2.2 [some [.bool false, .str ⟨#[]⟩, .str ⟨#[]⟩, .bool false, .str ⟨#[]⟩, .str ⟨#[]⟩]]) (some 3) v18).bind fun v19 => (byVal (callW gp) (@HAppend.hAppend Heap Heap Heap _ r2.2 [some [.bool false, .str ⟨#[]⟩, .str ⟨#[]⟩, .bool false, .str ⟨#[]⟩, .str ⟨#[]⟩]]) fid.vec_op_of [a2, v17, v19]).bind fun v20 => (opBld [.bool false, .str ⟨#[]⟩, .str ⟨#[]⟩, .bool false, .str ⟨#[]⟩, .str ⟨#[]⟩] [(0, 3, v15), (3, 3, v20)]).bind fun v21 => (opStore (@HAppend.hAppend Heap Heap Heap _ r2.2 [some [.bool false, .str ⟨#[]⟩, .str ⟨#[]⟩, .bool false, .str ⟨#[]⟩, .str ⟨#[]⟩]]) 6 (.rp (List.length (r2.2 : Heap)) 0) v21).bind fun h22 => (opLoad h22 (some 6) (.rp (List.length (r2.2 : Heap)) 0)).bind fun v23 => freeze h22 (.tup [v23, (.int .i64 0)]))
theorem vec_each.eq (a0 : AV) (a1 : AV) (a2 : AV) : cv gp fid.vec_each [a0, a1, a2] = vec_each.f a0 a1 a2 :=
  (cv_eq gp fid.vec_each [a0, a1, a2] vec_each.fn_eq).trans (by kernel_rfl)

/-! gusset gussetref04.Cross -/
/-! gusset gussetref04.Minus -/
/-! gusset gussetref04.Dot -/
/-! slices.Contains[[]gusset api.Point,gusset api.Point] -/
noncomputable def slices_Contains_Lapi_Point_api_Point.fn : AFun := (gp.fn fid.slices_Contains_Lapi_Point_api_Point).getD default
theorem slices_Contains_Lapi_Point_api_Point.fn_eq : gp.fn fid.slices_Contains_Lapi_Point_api_Point = some slices_Contains_Lapi_Point_api_Point.fn := by kernel_rfl
noncomputable def slices_Contains_Lapi_Point_api_Point.f (a0 : AV) (a1 : AV) : Option AV :=
  (opBox [] a1).bind fun r1 => (opLoad r1.2 (some 6) r1.1).bind fun v2 => (byVal (callW gp) r1.2 fid.slices_Index_Lapi_Point_api_Point [a0, v2]).bind fun v3 => (opBin .geq v3 (.int .i64 0)).bind fun v4 => freeze r1.2 v4
theorem slices_Contains_Lapi_Point_api_Point.eq (a0 : AV) (a1 : AV) : cv gp fid.slices_Contains_Lapi_Point_api_Point [a0, a1] = slices_Contains_Lapi_Point_api_Point.f a0 a1 :=
  (cv_eq gp fid.slices_Contains_Lapi_Point_api_Point [a0, a1] slices_Contains_Lapi_Point_api_Point.fn_eq).trans (by kernel_rfl)

/-! slices.ContainsFunc[[]gusset api.Seg,gusset api.Seg] -/
noncomputable def slices_ContainsFunc_Lapi_Seg_api_Seg.fn : AFun := (gp.fn fid.slices_ContainsFunc_Lapi_Seg_api_Seg).getD default
theorem slices_ContainsFunc_Lapi_Seg_api_Seg.fn_eq : gp.fn fid.slices_ContainsFunc_Lapi_Seg_api_Seg = some slices_ContainsFunc_Lapi_Seg_api_Seg.fn := by kernel_rfl
noncomputable def slices_ContainsFunc_Lapi_Seg_api_Seg.f (a0 : AV) (a1 : AV) : Option AV :=
  (byVal (callW gp) [] fid.slices_IndexFunc_Lapi_Seg_api_Seg [a0, a1]).bind fun v1 => (opBin .geq v1 (.int .i64 0)).bind fun v2 => freeze [] v2
theorem slices_ContainsFunc_Lapi_Seg_api_Seg.eq (a0 : AV) (a1 : AV) : cv gp fid.slices_ContainsFunc_Lapi_Seg_api_Seg [a0, a1] = slices_ContainsFunc_Lapi_Seg_api_Seg.f a0 a1 :=
  (cv_eq gp fid.slices_ContainsFunc_Lapi_Seg_api_Seg [a0, a1] slices_ContainsFunc_Lapi_Seg_api_Seg.fn_eq).trans (by kernel_rfl)

/-! gusset vec.pair -/
noncomputable def vec_pair.fn : AFun := (gp.fn fid.vec_pair).getD default
theorem vec_pair.fn_eq : gp.fn fid.vec_pair = some vec_pair.fn := by kernel_rfl
noncomputable def vec_pair.f (a0 : AV) (a1 : AV) (a2 : AV) (a3 : AV) (a4 : AV) : Option AV :=
  (opBox [] a0).bind fun r1 => (opBox r1.2 a1).bind fun r2 => (opBox r2.2 a2).bind fun r3 => (opBox r3.2 a3).bind fun r4 => (opLoad (@HAppend.hAppend Heap Heap Heap _ r4.2 [some [.bool false, .str ⟨#[]⟩, .str ⟨#[]⟩]]) (some 3) r1.1).bind fun v5 => (opLoad (@HAppend.hAppend Heap Heap Heap _ r4.2 [some [.bool false, .str ⟨#[]⟩, .str ⟨#[]⟩]]) (some 3) r3.1).bind fun v6 => (opLoad (@HAppend.hAppend Heap Heap Heap _ r4.2 [some [.bool false, .str ⟨#[]⟩, .str ⟨#[]⟩]]) (some 3) r2.1).bind fun v7 => (opLoad (@HAppend.hAppend Heap Heap Heap _ r4.2 [some [.bool false, .str ⟨#[]⟩, .str ⟨#[]⟩]]) (some 3) r4.1).bind fun v8 => (opBslc 3 4 [.bool false, .str ⟨#[]⟩, .str ⟨#[]⟩] [(0, v5), (1, v6), (2, v7), (3, v8)]).bind fun v9 => (byVal (callW gp) (@HAppend.hAppend Heap Heap Heap _ r4.2 [some [.bool false, .str ⟨#[]⟩, .str ⟨#[]⟩]]) fid.vec_numbers [v9]).bind fun v10 => (opBin .neq v10 (.int .i64 0)).bind fun v11 => condK v11 ((opBld [.bool false, .str ⟨#[]⟩, .str ⟨#[]⟩] []).bind fun v12 => (opStore (@HAppend.hAppend Heap Heap Heap _ r4.2 [some [.bool false, .str ⟨#[]⟩, .str ⟨#[]⟩]]) 3 (.rp (List.length (r4.2 : Heap)) 0) v12).bind fun h13 => (opLoad h13 (some 3) (.rp (List.length (r4.2 : Heap)) 0)).bind fun v14 => freeze h13 (.tup [v14, v10])) ((opLoad (@HAppend.hAppend Heap Heap Heap _ r4.2 [some [.bool false, .str ⟨#[]⟩, .str ⟨#[]⟩]]) (some 3) r1.1).bind fun v15 => (opLoad (@HAppend.hAppend Heap Heap Heap _ r4.2 [some [.bool false, .str ⟨#[]⟩, .str ⟨#[]⟩]]) (some 3) r2.1).bind fun v16 => (byVal (callW gp) (@HAppend.hAppend Heap Heap Heap _ r4.2 [some [.bool false, .str ⟨#[]⟩, .str ⟨#[]⟩]]) fid.vec_op_of [(.fn fid.rat_Mul []), v15, v16]).bind fun v17 => (opLoad (@HAppend.hAppend Heap Heap Heap _ r4.2 [some [.bool false, .str ⟨#[]⟩, .str ⟨#[]⟩]]) (some 3) r3.1).bind fun v18 => (opLoad (@HAppend.hAppend Heap Heap Heap _ r4.2 [some [.bool false, .str ⟨#[]⟩, .str ⟨#[]⟩]]) (some 3) r4.1).bind fun v19 => (byVal (callW gp) (@HAppend.hAppend Heap Heap Heap _ r4.2 [some [.bool false, .str ⟨#[]⟩, .str ⟨#[]⟩]]) fid.vec_op_of [(.fn fid.rat_Mul []), v18, v19]).bind fun v20 => (byVal (callW gp) (@HAppend.hAppend Heap Heap Heap _ r4.2 [some [.bool false, .str ⟨#[]⟩, .str ⟨#[]⟩]]) fid.vec_op_of [a4, v17, v20]).bind fun v21 => (opStore (@HAppend.hAppend Heap Heap Heap _ r4.2 [some [.bool false, .str ⟨#[]⟩, .str ⟨#[]⟩]]) 3 (.rp (List.length (r4.2 : Heap)) 0) v21).bind fun h22 => (opLoad h22 (some 3) (.rp (List.length (r4.2 : Heap)) 0)).bind fun v23 => freeze h22 (.tup [v23, (.int .i64 0)]))
theorem vec_pair.eq (a0 : AV) (a1 : AV) (a2 : AV) (a3 : AV) (a4 : AV) : cv gp fid.vec_pair [a0, a1, a2, a3, a4] = vec_pair.f a0 a1 a2 a3 a4 :=
  (cv_eq gp fid.vec_pair [a0, a1, a2, a3, a4] vec_pair.fn_eq).trans (by kernel_rfl)

/-! (gusset vec.op).of -/
noncomputable def vec_op_of.fn : AFun := (gp.fn fid.vec_op_of).getD default
theorem vec_op_of.fn_eq : gp.fn fid.vec_op_of = some vec_op_of.fn := by kernel_rfl
noncomputable def vec_op_of.f (a0 : AV) (a1 : AV) (a2 : AV) : Option AV :=
  (opBox [] a1).bind fun r1 => (opBox r1.2 a2).bind fun r2 => (opLoad (@HAppend.hAppend Heap Heap Heap _ r2.2 [some [.bool false, .str ⟨#[]⟩, .str ⟨#[]⟩]]) (some 3) r1.1).bind fun v3 => (opLoad (@HAppend.hAppend Heap Heap Heap _ r2.2 [some [.bool false, .str ⟨#[]⟩, .str ⟨#[]⟩]]) (some 3) r2.1).bind fun v4 => callK' (callW gp) gp.refm (@HAppend.hAppend Heap Heap Heap _ r2.2 [some [.bool false, .str ⟨#[]⟩, .str ⟨#[]⟩]]) a0 [v3, v4] fun v5 h6 => (opExt 0 v5).bind fun v7 => (opExt 1 v5).bind fun v8 => (opStore (@HAppend.hAppend Heap Heap Heap _ h6 [some [.bool false, .str ⟨#[]⟩, .str ⟨#[]⟩]]) 3 (.rp (List.length (h6 : Heap)) 0) v7).bind fun h9 => (opLoad h9 (some 3) (.rp (List.length (h6 : Heap)) 0)).bind fun v10 => (opStore h9 3 (.rp (List.length (r2.2 : Heap)) 0) v10).bind fun h11 => (opLoad h11 (some 3) (.rp (List.length (r2.2 : Heap)) 0)).bind fun v12 => freeze h11 v12
theorem vec_op_of.eq (a0 : AV) (a1 : AV) (a2 : AV) : cv gp fid.vec_op_of [a0, a1, a2] = vec_op_of.f a0 a1 a2 :=
  (cv_eq gp fid.vec_op_of [a0, a1, a2] vec_op_of.fn_eq).trans (by kernel_rfl)

/-! gusset vec.points -/
noncomputable def vec_points.fn : AFun := (gp.fn fid.vec_points).getD default
theorem vec_points.fn_eq : gp.fn fid.vec_points = some vec_points.fn := by kernel_rfl
noncomputable def vec_points.l0 (y6 : AV) (y7 : AV) (y8 : AV) (hh : Heap) : Option AV := loopAt gp vec_points.fn [true, false, true, false] (fun v h => freeze h v) ⟨frame 18 [(6, y6), (7, y7), (8, y8)], hh⟩
noncomputable def vec_points.f (a0 : AV) : Option AV :=
  (opLen false a0).bind fun v1 => vec_points.l0 a0 v1 (.int .i64 0) []
theorem vec_points.l0_eq (y6 : AV) (y7 : AV) (y8 : AV) (hh : Heap) : vec_points.l0 y6 y7 y8 hh =
    ((opBin .lss y8 y7).bind fun v2 => condK v2 ((opSidx 6 y6 y8).bind fun v3 => (opLoad hh (some 6) v3).bind fun v4 => (opStore (@HAppend.hAppend Heap Heap Heap _ hh [some [.bool false, .str ⟨#[]⟩, .str ⟨#[]⟩, .bool false, .str ⟨#[]⟩, .str ⟨#[]⟩]]) 6 (.rp (List.length (hh : Heap)) 0) v4).bind fun h5 => (opLoad h5 (some 6) (.rp (List.length (hh : Heap)) 0)).bind fun v6 => (byVal (callW gp) h5 fid.vec_Check [v6]).bind fun v7 => (opBin .neq v7 (.int .i64 0)).bind fun v8 => condK v8 (freeze h5 v7) ((opBin .add y8 (.int .i64 1)).bind fun v9 => vec_points.l0 y6 y7 v9 h5)) (freeze hh (.int .i64 0))) :=
  (loopAt_eq gp vec_points.fn [true, false, true, false] (fun v h => freeze h v) ⟨frame 18 [(6, y6), (7, y7), (8, y8)], hh⟩).trans (by kernel_rfl)
theorem vec_points.eq (a0 : AV) : cv gp fid.vec_points [a0] = vec_points.f a0 :=
  (cv_eq gp fid.vec_points [a0] vec_points.fn_eq).trans (by kernel_rfl)

/-! slices.Index[[]gusset api.Point,gusset api.Point] -/
noncomputable def slices_Index_Lapi_Point_api_Point.fn : AFun := (gp.fn fid.slices_Index_Lapi_Point_api_Point).getD default
theorem slices_Index_Lapi_Point_api_Point.fn_eq : gp.fn fid.slices_Index_Lapi_Point_api_Point = some slices_Index_Lapi_Point_api_Point.fn := by kernel_rfl
noncomputable def slices_Index_Lapi_Point_api_Point.l0 (y0 : AV) (y3 : AV) (y7 : AV) (y8 : AV) (hh : Heap) : Option AV := loopAt gp slices_Index_Lapi_Point_api_Point.fn [true, false, true, false] (fun v h => freeze h v) ⟨frame 19 [(0, y0), (3, y3), (7, y7), (8, y8)], hh⟩
noncomputable def slices_Index_Lapi_Point_api_Point.f (a0 : AV) (a1 : AV) : Option AV :=
  (opBox [] a1).bind fun r1 => (opLen false a0).bind fun v2 => slices_Index_Lapi_Point_api_Point.l0 a0 r1.1 v2 (.int .i64 0) r1.2
theorem slices_Index_Lapi_Point_api_Point.l0_eq (y0 : AV) (y3 : AV) (y7 : AV) (y8 : AV) (hh : Heap) : slices_Index_Lapi_Point_api_Point.l0 y0 y3 y7 y8 hh =
    ((opBin .lss y8 y7).bind fun v3 => condK v3 ((opLoad hh (some 6) y3).bind fun v4 => (opSidx 6 y0 y8).bind fun v5 => (opLoad hh (some 6) v5).bind fun v6 => (opEqa false [.b, .s, .s, .b, .s, .s] v4 v6).bind fun v7 => condK v7 (freeze hh y8) ((opBin .add y8 (.int .i64 1)).bind fun v8 => slices_Index_Lapi_Point_api_Point.l0 y0 y3 y7 v8 hh)) (freeze hh (.int .i64 (-1)))) :=
  (loopAt_eq gp slices_Index_Lapi_Point_api_Point.fn [true, false, true, false] (fun v h => freeze h v) ⟨frame 19 [(0, y0), (3, y3), (7, y7), (8, y8)], hh⟩).trans (by kernel_rfl)
theorem slices_Index_Lapi_Point_api_Point.eq (a0 : AV) (a1 : AV) : cv gp fid.slices_Index_Lapi_Point_api_Point [a0, a1] = slices_Index_Lapi_Point_api_Point.f a0 a1 :=
  (cv_eq gp fid.slices_Index_Lapi_Point_api_Point [a0, a1] slices_Index_Lapi_Point_api_Point.fn_eq).trans (by kernel_rfl)

/-! slices.IndexFunc[[]gusset api.Seg,gusset api.Seg] -/
noncomputable def slices_IndexFunc_Lapi_Seg_api_Seg.fn : AFun := (gp.fn fid.slices_IndexFunc_Lapi_Seg_api_Seg).getD default
theorem slices_IndexFunc_Lapi_Seg_api_Seg.fn_eq : gp.fn fid.slices_IndexFunc_Lapi_Seg_api_Seg = some slices_IndexFunc_Lapi_Seg_api_Seg.fn := by kernel_rfl
noncomputable def slices_IndexFunc_Lapi_Seg_api_Seg.l0 (y0 : AV) (y1 : AV) (y7 : AV) (y8 : AV) (hh : Heap) : Option AV := loopAt gp slices_IndexFunc_Lapi_Seg_api_Seg.fn [true, false, true, false] (fun v h => freeze h v) ⟨frame 19 [(0, y0), (1, y1), (7, y7), (8, y8)], hh⟩
noncomputable def slices_IndexFunc_Lapi_Seg_api_Seg.f (a0 : AV) (a1 : AV) : Option AV :=
  (opLen false a0).bind fun v1 => slices_IndexFunc_Lapi_Seg_api_Seg.l0 a0 a1 v1 (.int .i64 0) []
theorem slices_IndexFunc_Lapi_Seg_api_Seg.l0_eq (y0 : AV) (y1 : AV) (y7 : AV) (y8 : AV) (hh : Heap) : slices_IndexFunc_Lapi_Seg_api_Seg.l0 y0 y1 y7 y8 hh =
    ((opBin .lss y8 y7).bind fun v2 => condK v2 ((opSidx 3 y0 y8).bind fun v3 => (opLoad hh (some 3) v3).bind fun v4 => callK' (callW gp) gp.refm hh y1 [v4] fun v5 h6 => condK v5 (freeze h6 y8) ((opBin .add y8 (.int .i64 1)).bind fun v7 => slices_IndexFunc_Lapi_Seg_api_Seg.l0 y0 y1 y7 v7 h6)) (freeze hh (.int .i64 (-1)))) :=
  (loopAt_eq gp slices_IndexFunc_Lapi_Seg_api_Seg.fn [true, false, true, false] (fun v h => freeze h v) ⟨frame 19 [(0, y0), (1, y1), (7, y7), (8, y8)], hh⟩).trans (by kernel_rfl)
theorem slices_IndexFunc_Lapi_Seg_api_Seg.eq (a0 : AV) (a1 : AV) : cv gp fid.slices_IndexFunc_Lapi_Seg_api_Seg [a0, a1] = slices_IndexFunc_Lapi_Seg_api_Seg.f a0 a1 :=
  (cv_eq gp fid.slices_IndexFunc_Lapi_Seg_api_Seg [a0, a1] slices_IndexFunc_Lapi_Seg_api_Seg.fn_eq).trans (by kernel_rfl)

/-! gusset gussetref04.Norm2 -/
end Go.Proofs.YtechbfodaallkaaGreat.Am
