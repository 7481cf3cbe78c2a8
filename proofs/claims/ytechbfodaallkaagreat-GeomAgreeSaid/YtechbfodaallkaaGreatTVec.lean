import Derived.Test.YtechbfodaallkaaGreatAmGp
set_option linter.unusedVariables false
set_option maxRecDepth 10000
set_option maxHeartbeats 0
namespace Go.Proofs.YtechbfodaallkaaGreat.Am
open Go
/-! gusset gussetref04.Check -/
noncomputable def gussetref04_Check.fn : AFun := (gp.fn fid.gussetref04_Check).getD default
theorem gussetref04_Check.fn_eq : gp.fn fid.gussetref04_Check = some gussetref04_Check.fn := by kernel_rfl
noncomputable def gussetref04_Check.f (a0 : AV) : Option AV :=
  (opBox [] a0).bind fun r1 => (opFaddr 0 r1.1).bind fun v2 => (opLoad r1.2 (some 3) v2).bind fun v3 => (opFaddr 3 r1.1).bind fun v4 => (opLoad r1.2 (some 3) v4).bind fun v5 => (byVal (callW gp) r1.2 fid.gussetref03_Both [v3, v5]).bind fun v6 => freeze r1.2 v6
theorem gussetref04_Check.eq (a0 : AV) : cv gp fid.gussetref04_Check [a0] = gussetref04_Check.f a0 :=
  (cv_eq gp fid.gussetref04_Check [a0] gussetref04_Check.fn_eq).trans (by kernel_rfl)

/-! gusset gussetref04.Plus -/
/-! gusset gussetref04.Scale -/
/-! gusset vec.Norm2 -/
noncomputable def vec_Norm2.fn : AFun := (gp.fn fid.vec_Norm2).getD default
theorem vec_Norm2.fn_eq : gp.fn fid.vec_Norm2 = some vec_Norm2.fn := by kernel_rfl
noncomputable def vec_Norm2.f (a0 : AV) : Option AV :=
  (opBox [] a0).bind fun r1 => (opLoad (@HAppend.hAppend Heap Heap Heap _ r1.2 [some [.bool false, .str ⟨#[]⟩, .str ⟨#[]⟩]]) (some 6) r1.1).bind fun v2 => (opLoad (@HAppend.hAppend Heap Heap Heap _ r1.2 [some [.bool false, .str ⟨#[]⟩, .str ⟨#[]⟩]]) (some 6) r1.1).bind fun v3 => (byVal (callW gp) (@HAppend.hAppend Heap Heap Heap _ r1.2 [some [.bool false, .str ⟨#[]⟩, .str ⟨#[]⟩]]) fid.vec_Dot [v2, v3]).bind fun v4 => (opExt 0 v4).bind fun v5 => (opExt 1 v4).bind fun v6 => (opStore (@HAppend.hAppend Heap Heap Heap _ r1.2 [some [.bool false, .str ⟨#[]⟩, .str ⟨#[]⟩]]) 3 (.rp (List.length (r1.2 : Heap)) 0) v5).bind fun h7 => (opLoad h7 (some 3) (.rp (List.length (r1.2 : Heap)) 0)).bind fun v8 => freeze h7 (.tup [v8, v6])
theorem vec_Norm2.eq (a0 : AV) : cv gp fid.vec_Norm2 [a0] = vec_Norm2.f a0 :=
  (cv_eq gp fid.vec_Norm2 [a0] vec_Norm2.fn_eq).trans (by kernel_rfl)

/-! gusset vec.Det -/
noncomputable def vec_Det.fn : AFun := (gp.fn fid.vec_Det).getD default
theorem vec_Det.fn_eq : gp.fn fid.vec_Det = some vec_Det.fn := by kernel_rfl
noncomputable def vec_Det.f (a0 : AV) : Option AV :=
  (opBox [] a0).bind fun r1 => (opLoad (@HAppend.hAppend Heap Heap Heap _ r1.2 [some [.bool false, .str ⟨#[]⟩, .str ⟨#[]⟩]]) none r1.1).bind fun v2 => (opLen false v2).bind fun v3 => (opBin .lss v3 (.int .i64 1)).bind fun v4 => guardK v4 false ((opLoad (@HAppend.hAppend Heap Heap Heap _ r1.2 [some [.bool false, .str ⟨#[]⟩, .str ⟨#[]⟩]]) none r1.1).bind fun v5 => (opLen false v5).bind fun v6 => (opBin .gtr v6 (.int .i64 4)).bind fun v7 => guardK v7 false ((opLoad (@HAppend.hAppend Heap Heap Heap _ r1.2 [some [.bool false, .str ⟨#[]⟩, .str ⟨#[]⟩]]) none r1.1).bind fun v8 => (byVal (callW gp) (@HAppend.hAppend Heap Heap Heap _ r1.2 [some [.bool false, .str ⟨#[]⟩, .str ⟨#[]⟩]]) fid.slices_ContainsFunc_LLapi_Rat_Lapi_Rat [v8, (.fn fid.vec_Det_1 [r1.1])]).bind fun v9 => condK v9 ((opBld [.bool false, .str ⟨#[]⟩, .str ⟨#[]⟩] []).bind fun v10 => (opStore (@HAppend.hAppend Heap Heap Heap _ r1.2 [some [.bool false, .str ⟨#[]⟩, .str ⟨#[]⟩]]) 3 (.rp (List.length (r1.2 : Heap)) 0) v10).bind fun h11 => (opLoad h11 (some 3) (.rp (List.length (r1.2 : Heap)) 0)).bind fun v12 => freeze h11 (.tup [v12, (.int .i64 1)])) ((opLoad (@HAppend.hAppend Heap Heap Heap _ r1.2 [some [.bool false, .str ⟨#[]⟩, .str ⟨#[]⟩]]) none r1.1).bind fun v19 => (byVal (callW gp) (@HAppend.hAppend Heap Heap Heap _ r1.2 [some [.bool false, .str ⟨#[]⟩, .str ⟨#[]⟩]]) fid.slices_Concat_Lapi_Rat_api_Rat [v19]).bind fun v20 => (byVal (callW gp) (@HAppend.hAppend Heap Heap Heap _ r1.2 [some [.bool false, .str ⟨#[]⟩, .str ⟨#[]⟩]]) fid.vec_numbers [v20]).bind fun v21 => (opBin .neq v21 (.int .i64 0)).bind fun v22 => condK v22 ((opBld [.bool false, .str ⟨#[]⟩, .str ⟨#[]⟩] []).bind fun v23 => (opStore (@HAppend.hAppend Heap Heap Heap _ r1.2 [some [.bool false, .str ⟨#[]⟩, .str ⟨#[]⟩]]) 3 (.rp (List.length (r1.2 : Heap)) 0) v23).bind fun h24 => (opLoad h24 (some 3) (.rp (List.length (r1.2 : Heap)) 0)).bind fun v25 => freeze h24 (.tup [v25, v21])) ((opLoad (@HAppend.hAppend Heap Heap Heap _ r1.2 [some [.bool false, .str ⟨#[]⟩, .str ⟨#[]⟩]]) none r1.1).bind fun v26 => (byVal (callW gp) (@HAppend.hAppend Heap Heap Heap _ r1.2 [some [.bool false, .str ⟨#[]⟩, .str ⟨#[]⟩]]) fid.vec_det [v26]).bind fun v27 => (opStore (@HAppend.hAppend Heap Heap Heap _ r1.2 [some [.bool false, .str ⟨#[]⟩, .str ⟨#[]⟩]]) 3 (.rp (List.length (r1.2 : Heap)) 0) v27).bind fun h28 => (opLoad h28 (some 3) (.rp (List.length (r1.2 : Heap)) 0)).bind fun v29 => freeze h28 (.tup [v29, (.int .i64 0)])))) ((opBld [.bool false, .str ⟨#[]⟩, .str ⟨#[]⟩] []).bind fun v13 => (opStore (@HAppend.hAppend Heap Heap Heap _ r1.2 [some [.bool false, .str ⟨#[]⟩, .str ⟨#[]⟩]]) 3 (.rp (List.length (r1.2 : Heap)) 0) v13).bind fun h14 => (opLoad h14 (some 3) (.rp (List.length (r1.2 : Heap)) 0)).bind fun v15 => freeze h14 (.tup [v15, (.int .i64 1)]))) ((opBld [.bool false, .str ⟨#[]⟩, .str ⟨#[]⟩] []).bind fun v16 => (opStore (@HAppend.hAppend Heap Heap Heap _ r1.2 [some [.bool false, .str ⟨#[]⟩, .str ⟨#[]⟩]]) 3 (.rp (List.length (r1.2 : Heap)) 0) v16).bind fun h17 => (opLoad h17 (some 3) (.rp (List.length (r1.2 : Heap)) 0)).bind fun v18 => freeze h17 (.tup [v18, (.int .i64 1)]))
theorem vec_Det.eq (a0 : AV) : cv gp fid.vec_Det [a0] = vec_Det.f a0 :=
  (cv_eq gp fid.vec_Det [a0] vec_Det.fn_eq).trans (by kernel_rfl)

/-! gusset vec.Scale -/
noncomputable def vec_Scale.fn : AFun := (gp.fn fid.vec_Scale).getD default
theorem vec_Scale.fn_eq : gp.fn fid.vec_Scale = some vec_Scale.fn := by kernel_rfl
noncomputable def vec_Scale.f (a0 : AV) (a1 : AV) : Option AV :=
  (opBox [] a0).bind fun r1 => (opBox r1.2 a1).bind fun r2 => (opLoad (@HAppend.hAppend Heap Heap Heap _ r2.2 [some [.bool false, .str ⟨#[]⟩, .str ⟨#[]⟩, .bool false, .str ⟨#[]⟩, .str ⟨#[]⟩]]) (some 6) r1.1).bind fun v3 => (opLoad (@HAppend.hAppend Heap Heap Heap _ r2.2 [some [.bool false, .str ⟨#[]⟩, .str ⟨#[]⟩, .bool false, .str ⟨#[]⟩, .str ⟨#[]⟩]]) (some 3) r2.1).bind fun v4 => (opLoad (@HAppend.hAppend Heap Heap Heap _ r2.2 [some [.bool false, .str ⟨#[]⟩, .str ⟨#[]⟩, .bool false, .str ⟨#[]⟩, .str ⟨#[]⟩]]) (some 3) r2.1).bind fun v5 => (opBld [.bool false, .str ⟨#[]⟩, .str ⟨#[]⟩, .bool false, .str ⟨#[]⟩, .str ⟨#[]⟩] [(0, 3, v4), (3, 3, v5)]).bind fun v6 => (byVal (callW gp) (@HAppend.hAppend Heap Heap Heap _ r2.2 [some [.bool false, .str ⟨#[]⟩, .str ⟨#[]⟩, .bool false, .str ⟨#[]⟩, .str ⟨#[]⟩]]) fid.vec_each [v3, v6, (.fn fid.rat_Mul [])]).bind fun v7 => (opExt 0 v7).bind fun v8 => (opExt 1 v7).bind fun v9 => (opStore (@HAppend.hAppend Heap Heap Heap _ r2.2 [some [.bool false, .str ⟨#[]⟩, .str ⟨#[]⟩, .bool false, .str ⟨#[]⟩, .str ⟨#[]⟩]]) 6 (.rp (List.length (r2.2 : Heap)) 0) v8).bind fun h10 => (opLoad h10 (some 6) (.rp (List.length (r2.2 : Heap)) 0)).bind fun v11 => freeze h10 (.tup [v11, v9])
theorem vec_Scale.eq (a0 : AV) (a1 : AV) : cv gp fid.vec_Scale [a0, a1] = vec_Scale.f a0 a1 :=
  (cv_eq gp fid.vec_Scale [a0, a1] vec_Scale.fn_eq).trans (by kernel_rfl)

/-! gusset vec.Plus -/
noncomputable def vec_Plus.fn : AFun := (gp.fn fid.vec_Plus).getD default
theorem vec_Plus.fn_eq : gp.fn fid.vec_Plus = some vec_Plus.fn := by kernel_rfl
noncomputable def vec_Plus.f (a0 : AV) (a1 : AV) : Option AV :=
  (opBox [] a0).bind fun r1 => (opBox r1.2 a1).bind fun r2 => (opLoad (@HAppend.hAppend Heap Heap Heap _ r2.2 [some [.bool false, .str ⟨#[]⟩, .str ⟨#[]⟩, .bool false, .str ⟨#[]⟩, .str ⟨#[]⟩]]) (some 6) r1.1).bind fun v3 => (opLoad (@HAppend.hAppend Heap Heap Heap _ r2.2 [some [.bool false, .str ⟨#[]⟩, .str ⟨#[]⟩, .bool false, .str ⟨#[]⟩, .str ⟨#[]⟩]]) (some 6) r2.1).bind fun v4 => (byVal (callW gp) (@HAppend.hAppend Heap Heap Heap _ r2.2 [some [.bool false, .str ⟨#[]⟩, .str ⟨#[]⟩, .bool false, .str ⟨#[]⟩, .str ⟨#[]⟩]]) fid.vec_each [v3, v4, (.fn fid.rat_Add [])]).bind fun v5 => (opExt 0 v5).bind fun v6 => (opExt 1 v5).bind fun v7 => (opStore (@HAppend.hAppend Heap Heap Heap _ r2.2 [some [.bool false, .str ⟨#[]⟩, .str ⟨#[]⟩, .bool false, .str ⟨#[]⟩, .str ⟨#[]⟩]]) 6 (.rp (List.length (r2.2 : Heap)) 0) v6).bind fun h8 => (opLoad h8 (some 6) (.rp (List.length (r2.2 : Heap)) 0)).bind fun v9 => freeze h8 (.tup [v9, v7])
theorem vec_Plus.eq (a0 : AV) (a1 : AV) : cv gp fid.vec_Plus [a0, a1] = vec_Plus.f a0 a1 :=
  (cv_eq gp fid.vec_Plus [a0, a1] vec_Plus.fn_eq).trans (by kernel_rfl)

/-! gusset vec.Check -/
noncomputable def vec_Check.fn : AFun := (gp.fn fid.vec_Check).getD default
theorem vec_Check.fn_eq : gp.fn fid.vec_Check = some vec_Check.fn := by kernel_rfl
noncomputable def vec_Check.f (a0 : AV) : Option AV :=
  (opBox [] a0).bind fun r1 => (opFaddr 0 r1.1).bind fun v2 => (opLoad r1.2 (some 3) v2).bind fun v3 => (opFaddr 3 r1.1).bind fun v4 => (opLoad r1.2 (some 3) v4).bind fun v5 => (opBslc 3 2 [.bool false, .str ⟨#[]⟩, .str ⟨#[]⟩] [(0, v3), (1, v5)]).bind fun v6 => (byVal (callW gp) r1.2 fid.vec_numbers [v6]).bind fun v7 => freeze r1.2 v7
theorem vec_Check.eq (a0 : AV) : cv gp fid.vec_Check [a0] = vec_Check.f a0 :=
  (cv_eq gp fid.vec_Check [a0] vec_Check.fn_eq).trans (by kernel_rfl)

/-! gusset vec.Minus -/
noncomputable def vec_Minus.fn : AFun := (gp.fn fid.vec_Minus).getD default
theorem vec_Minus.fn_eq : gp.fn fid.vec_Minus = some vec_Minus.fn := by kernel_rfl
noncomputable def vec_Minus.f (a0 : AV) (a1 : AV) : Option AV :=
  (opBox [] a0).bind fun r1 => (opBox r1.2 a1).bind fun r2 => (opLoad (@HAppend.hAppend Heap Heap Heap _ r2.2 [some [.bool false, .str ⟨#[]⟩, .str ⟨#[]⟩, .bool false, .str ⟨#[]⟩, .str ⟨#[]⟩]]) (some 6) r1.1).bind fun v3 => (opLoad (@HAppend.hAppend Heap Heap Heap _ r2.2 [some [.bool false, .str ⟨#[]⟩, .str ⟨#[]⟩, .bool false, .str ⟨#[]⟩, .str ⟨#[]⟩]]) (some 6) r2.1).bind fun v4 => (byVal (callW gp) (@HAppend.hAppend Heap Heap Heap _ r2.2 [some [.bool false, .str ⟨#[]⟩, .str ⟨#[]⟩, .bool false, .str ⟨#[]⟩, .str ⟨#[]⟩]]) fid.vec_each [v3, v4, (.fn fid.rat_Sub [])]).bind fun v5 => (opExt 0 v5).bind fun v6 => (opExt 1 v5).bind fun v7 => (opStore (@HAppend.hAppend Heap Heap Heap _ r2.2 [some [.bool false, .str ⟨#[]⟩, .str ⟨#[]⟩, .bool false, .str ⟨#[]⟩, .str ⟨#[]⟩]]) 6 (.rp (List.length (r2.2 : Heap)) 0) v6).bind fun h8 => (opLoad h8 (some 6) (.rp (List.length (r2.2 : Heap)) 0)).bind fun v9 => freeze h8 (.tup [v9, v7])
theorem vec_Minus.eq (a0 : AV) (a1 : AV) : cv gp fid.vec_Minus [a0, a1] = vec_Minus.f a0 a1 :=
  (cv_eq gp fid.vec_Minus [a0, a1] vec_Minus.fn_eq).trans (by kernel_rfl)

/-! gusset vec.Dot -/
noncomputable def vec_Dot.fn : AFun := (gp.fn fid.vec_Dot).getD default
theorem vec_Dot.fn_eq : gp.fn fid.vec_Dot = some vec_Dot.fn := by kernel_rfl
noncomputable def vec_Dot.f (a0 : AV) (a1 : AV) : Option AV :=
  (opBox [] a0).bind fun r1 => (opBox r1.2 a1).bind fun r2 => (opFaddr 0 r1.1).bind fun v3 => (opLoad (@HAppend.hAppend Heap Heap Heap _ r2.2 [some [.bool false, .str ⟨#[]⟩, .str ⟨#[]⟩]]) (some 3) v3).bind fun v4 => (opFaddr 0 r2.1).bind fun v5 => (opLoad (@HAppend.hAppend Heap Heap Heap _ r2.2 [some [.bool false, .str ⟨#[]⟩, .str ⟨#[]⟩]]) (some 3) v5).bind fun v6 => (opFaddr 3 r1.1).bind fun v7 => (opLoad (@HAppend.hAppend Heap Heap Heap _ r2.2 [some [.bool false, .str ⟨#[]⟩, .str ⟨#[]⟩]]) (some 3) v7).bind fun v8 => (opFaddr 3 r2.1).bind fun v9 => (opLoad (@HAppend.hAppend Heap Heap Heap _ r2.2 [some [.bool false, .str ⟨#[]⟩, .str ⟨#[]⟩]]) (some 3) v9).bind fun v10 => (byVal (callW gp) (@HAppend.hAppend Heap Heap Heap _ r2.2 [some [.bool false, .str ⟨#[]⟩, .str ⟨#[]⟩]]) fid.vec_pair [v4, v6, v8, v10, (.fn fid.rat_Add [])]).bind fun v11 => (opExt 0 v11).bind fun v12 => (opExt 1 v11).bind fun v13 => (opStore (@HAppend.hAppend Heap Heap Heap _ r2.2 [some [.bool false, .str ⟨#[]⟩, .str ⟨#[]⟩]]) 3 (.rp (List.length (r2.2 : Heap)) 0) v12).bind fun h14 => (opLoad h14 (some 3) (.rp (List.length (r2.2 : Heap)) 0)).bind fun v15 => freeze h14 (.tup [v15, v13])
theorem vec_Dot.eq (a0 : AV) (a1 : AV) : cv gp fid.vec_Dot [a0, a1] = vec_Dot.f a0 a1 :=
  (cv_eq gp fid.vec_Dot [a0, a1] vec_Dot.fn_eq).trans (by kernel_rfl)

/-! slices.ContainsFunc[[][]gusset api.Rat,[]gusset api.Rat] -/
noncomputable def slices_ContainsFunc_LLapi_Rat_Lapi_Rat.fn : AFun := (gp.fn fid.slices_ContainsFunc_LLapi_Rat_Lapi_Rat).getD default
theorem slices_ContainsFunc_LLapi_Rat_Lapi_Rat.fn_eq : gp.fn fid.slices_ContainsFunc_LLapi_Rat_Lapi_Rat = some slices_ContainsFunc_LLapi_Rat_Lapi_Rat.fn := by kernel_rfl
noncomputable def slices_ContainsFunc_LLapi_Rat_Lapi_Rat.f (a0 : AV) (a1 : AV) : Option AV :=
  (byVal (callW gp) [] fid.slices_IndexFunc_LLapi_Rat_Lapi_Rat [a0, a1]).bind fun v1 => (opBin .geq v1 (.int .i64 0)).bind fun v2 => freeze [] v2
theorem slices_ContainsFunc_LLapi_Rat_Lapi_Rat.eq (a0 : AV) (a1 : AV) : cv gp fid.slices_ContainsFunc_LLapi_Rat_Lapi_Rat [a0, a1] = slices_ContainsFunc_LLapi_Rat_Lapi_Rat.f a0 a1 :=
  (cv_eq gp fid.slices_ContainsFunc_LLapi_Rat_Lapi_Rat [a0, a1] slices_ContainsFunc_LLapi_Rat_Lapi_Rat.fn_eq).trans (by kernel_rfl)

/-! gusset vec.Det$1 -/
noncomputable def vec_Det_1.fn : AFun := (gp.fn fid.vec_Det_1).getD default
theorem vec_Det_1.fn_eq : gp.fn fid.vec_Det_1 = some vec_Det_1.fn := by kernel_rfl
noncomputable def vec_Det_1.f (a0 : AV) (a1 : AV) : Option AV :=
  (opLen false a0).bind fun v1 => (opLoad [] none a1).bind fun v2 => (opLen false v2).bind fun v3 => (opBin .neq v1 v3).bind fun v4 => freeze [] v4
theorem vec_Det_1.eq (a0 : AV) (a1 : AV) : cv gp fid.vec_Det_1 [a0, a1] = vec_Det_1.f a0 a1 :=
  (cv_eq gp fid.vec_Det_1 [a0, a1] vec_Det_1.fn_eq).trans (by kernel_rfl)

/-! gusset vec.numbers -/
noncomputable def vec_numbers.fn : AFun := (gp.fn fid.vec_numbers).getD default
theorem vec_numbers.fn_eq : gp.fn fid.vec_numbers = some vec_numbers.fn := by kernel_rfl
noncomputable def vec_numbers.l0 (y6 : AV) (y7 : AV) (y8 : AV) (hh : Heap) : Option AV := loopAt gp vec_numbers.fn [true, false, true, false] (fun v h => freeze h v) ⟨frame 18 [(6, y6), (7, y7), (8, y8)], hh⟩
noncomputable def vec_numbers.f (a0 : AV) : Option AV :=
  (opLen false a0).bind fun v1 => vec_numbers.l0 a0 v1 (.int .i64 0) []
theorem vec_numbers.l0_eq (y6 : AV) (y7 : AV) (y8 : AV) (hh : Heap) : vec_numbers.l0 y6 y7 y8 hh =
    ((opBin .lss y8 y7).bind fun v2 => condK v2 ((opSidx 3 y6 y8).bind fun v3 => (opLoad hh (some 3) v3).bind fun v4 => (opStore (@HAppend.hAppend Heap Heap Heap _ hh [some [.bool false, .str ⟨#[]⟩, .str ⟨#[]⟩]]) 3 (.rp (List.length (hh : Heap)) 0) v4).bind fun h5 => (opLoad h5 (some 3) (.rp (List.length (hh : Heap)) 0)).bind fun v6 => (byVal (callW gp) h5 fid.rat_Check [v6]).bind fun v7 => (opBin .neq v7 (.int .i64 0)).bind fun v8 => condK v8 (freeze h5 v7) ((opBin .add y8 (.int .i64 1)).bind fun v9 => vec_numbers.l0 y6 y7 v9 h5)) (freeze hh (.int .i64 0))) :=
  (loopAt_eq gp vec_numbers.fn [true, false, true, false] (fun v h => freeze h v) ⟨frame 18 [(6, y6), (7, y7), (8, y8)], hh⟩).trans (by kernel_rfl)
theorem vec_numbers.eq (a0 : AV) : cv gp fid.vec_numbers [a0] = vec_numbers.f a0 :=
  (cv_eq gp fid.vec_numbers [a0] vec_numbers.fn_eq).trans (by kernel_rfl)

/-! slices.Concat[[]gusset api.Rat,gusset api.Rat] -/
noncomputable def slices_Concat_Lapi_Rat_api_Rat.fn : AFun := (gp.fn fid.slices_Concat_Lapi_Rat_api_Rat).getD default
theorem slices_Concat_Lapi_Rat_api_Rat.fn_eq : gp.fn fid.slices_Concat_Lapi_Rat_api_Rat = some slices_Concat_Lapi_Rat_api_Rat.fn := by kernel_rfl
noncomputable def slices_Concat_Lapi_Rat_api_Rat.l0 (y0 : AV) (y3 : AV) (y9 : AV) (y10 : AV) (y11 : AV) : Option AV := loopAt gp slices_Concat_Lapi_Rat_api_Rat.fn [true, true, false, true, false] (fun v h => freeze h v) ⟨frame 36 [(0, y0), (3, y3), (9, y9), (10, y10), (11, y11)], []⟩
noncomputable def slices_Concat_Lapi_Rat_api_Rat.l1 (y6 : AV) (y25 : AV) (y26 : AV) (y27 : AV) (hh : Heap) : Option AV := loopAt gp slices_Concat_Lapi_Rat_api_Rat.fn [true, true, true, true, false, true, false] (fun v h => freeze h v) ⟨frame 36 [(6, y6), (25, y25), (26, y26), (27, y27)], hh⟩
noncomputable def slices_Concat_Lapi_Rat_api_Rat.f (a0 : AV) : Option AV :=
  (opLen false a0).bind fun v1 => slices_Concat_Lapi_Rat_api_Rat.l0 a0 (.int .i64 0) a0 v1 (.int .i64 0)
theorem slices_Concat_Lapi_Rat_api_Rat.l0_eq (y0 : AV) (y3 : AV) (y9 : AV) (y10 : AV) (y11 : AV) : slices_Concat_Lapi_Rat_api_Rat.l0 y0 y3 y9 y10 y11 =
    ((opBin .lss y11 y10).bind fun v2 => condK v2 ((opSidx 1 y9 y11).bind fun v3 => (opLoad [] none v3).bind fun v4 => (opLen false v4).bind fun v5 => (opBin .add y3 v5).bind fun v6 => (opBin .lss v6 (.int .i64 0)).bind fun v7 => condK v7 (none) ((opBin .add y11 (.int .i64 1)).bind fun v8 => slices_Concat_Lapi_Rat_api_Rat.l0 y0 v6 y9 y10 v8)) ((callW gp fid.slices_Grow_Lapi_Rat_api_Rat [(.is 0 true []), y3] []).bind fun r9 => (opLen false y0).bind fun v10 => slices_Concat_Lapi_Rat_api_Rat.l1 r9.1 y0 v10 (.int .i64 0) r9.2)) :=
  (loopAt_eq gp slices_Concat_Lapi_Rat_api_Rat.fn [true, true, false, true, false] (fun v h => freeze h v) ⟨frame 36 [(0, y0), (3, y3), (9, y9), (10, y10), (11, y11)], []⟩).trans (by kernel_rfl)
theorem slices_Concat_Lapi_Rat_api_Rat.l1_eq (y6 : AV) (y25 : AV) (y26 : AV) (y27 : AV) (hh : Heap) : slices_Concat_Lapi_Rat_api_Rat.l1 y6 y25 y26 y27 hh =
    ((opBin .lss y27 y26).bind fun v11 => condK v11 ((opSidx 1 y25 y27).bind fun v12 => (opLoad hh none v12).bind fun v13 => (opApp hh 3 y6 v13).bind fun r14 => (opBin .add y27 (.int .i64 1)).bind fun v15 => slices_Concat_Lapi_Rat_api_Rat.l1 r14.1 y25 y26 v15 r14.2) (freeze hh y6)) :=
  (loopAt_eq gp slices_Concat_Lapi_Rat_api_Rat.fn [true, true, true, true, false, true, false] (fun v h => freeze h v) ⟨frame 36 [(6, y6), (25, y25), (26, y26), (27, y27)], hh⟩).trans (by kernel_rfl)
theorem slices_Concat_Lapi_Rat_api_Rat.eq (a0 : AV) : cv gp fid.slices_Concat_Lapi_Rat_api_Rat [a0] = slices_Concat_Lapi_Rat_api_Rat.f a0 :=
  (cv_eq gp fid.slices_Concat_Lapi_Rat_api_Rat [a0] slices_Concat_Lapi_Rat_api_Rat.fn_eq).trans (by kernel_rfl)

/-! gusset vec.det -/
noncomputable def vec_det.fn : AFun := (gp.fn fid.vec_det).getD default
theorem vec_det.fn_eq : gp.fn fid.vec_det = some vec_det.fn := by kernel_rfl
noncomputable def vec_det.l1 (y0 : AV) (y2 : AV) (y3 : AV) (y4 : AV) (y5 : AV) (y6 : AV) (y21 : AV) (y22 : AV) (y23 : AV) (y29 : AV) (y30 : AV) (y31 : AV) (hh : Heap) : Option AV := loopAt gp vec_det.fn [true, true, true, false, true, false, false, true, true, false, false, true, true, false, true, false] (fun v h => freeze h v) ⟨frame 60 [(0, y0), (2, y2), (3, y3), (4, y4), (5, y5), (6, y6), (21, y21), (22, y22), (23, y23), (29, y29), (30, y30), (31, y31)], hh⟩
noncomputable def vec_det.l0 (y0 : AV) (y2 : AV) (y3 : AV) (y21 : AV) (y22 : AV) (y23 : AV) (hh : Heap) : Option AV := loopAt gp vec_det.fn [true, true, true, false, true, false] (fun v h => freeze h v) ⟨frame 60 [(0, y0), (2, y2), (3, y3), (21, y21), (22, y22), (23, y23)], hh⟩
noncomputable def vec_det.f (a0 : AV) : Option AV :=
  (opLen false a0).bind fun v1 => (opBin .eql v1 (.int .i64 1)).bind fun v2 => condK v2 ((opSidx 1 a0 (.int .i64 0)).bind fun v3 => (opLoad [some [.bool false, .str ⟨#[]⟩, .str ⟨#[]⟩]] none v3).bind fun v4 => (opSidx 3 v4 (.int .i64 0)).bind fun v5 => (opLoad [some [.bool false, .str ⟨#[]⟩, .str ⟨#[]⟩]] (some 3) v5).bind fun v6 => (opStore [some [.bool false, .str ⟨#[]⟩, .str ⟨#[]⟩]] 3 (.rp 0 0) v6).bind fun h7 => (opLoad h7 (some 3) (.rp 0 0)).bind fun v8 => freeze h7 v8) ((byVal (callW gp) [some [.bool false, .str ⟨#[]⟩, .str ⟨#[]⟩]] fid.rat_Of [(.int .i64 0)]).bind fun v9 => (opStore (@HAppend.hAppend Heap Heap Heap _ [some [.bool false, .str ⟨#[]⟩, .str ⟨#[]⟩]] [some [.bool false, .str ⟨#[]⟩, .str ⟨#[]⟩]]) 3 (.rp (List.length ([some [.bool false, .str ⟨#[]⟩, .str ⟨#[]⟩]] : Heap)) 0) v9).bind fun h10 => (opSidx 1 a0 (.int .i64 0)).bind fun v11 => (opLoad h10 none v11).bind fun v12 => (opLen false v12).bind fun v13 => vec_det.l0 a0 (.rp 0 0) (.rp (List.length ([some [.bool false, .str ⟨#[]⟩, .str ⟨#[]⟩]] : Heap)) 0) v12 v13 (.int .i64 0) h10)
theorem vec_det.l1_eq (y0 : AV) (y2 : AV) (y3 : AV) (y4 : AV) (y5 : AV) (y6 : AV) (y21 : AV) (y22 : AV) (y23 : AV) (y29 : AV) (y30 : AV) (y31 : AV) (hh : Heap) : vec_det.l1 y0 y2 y3 y4 y5 y6 y21 y22 y23 y29 y30 y31 hh =
    ((opBin .lss y31 y30).bind fun v20 => condK v20 ((opSidx 1 y29 y31).bind fun v21 => (opLoad hh none v21).bind fun v22 => (callW gp fid.slices_Clone_Lapi_Rat_api_Rat [v22] hh).bind fun r23 => (opBin .add y4 (.int .i64 1)).bind fun v24 => (callW gp fid.slices_Delete_Lapi_Rat_api_Rat [r23.1, y4, v24] r23.2).bind fun r25 => (opBslc 1 1 [.is 0 true []] [(0, r25.1)]).bind fun v26 => (opApp r25.2 1 y6 v26).bind fun r27 => (opBin .add y31 (.int .i64 1)).bind fun v28 => vec_det.l1 y0 y2 y3 y4 y5 r27.1 y21 y22 y23 y29 y30 v28 r27.2) ((opLoad hh (some 3) y5).bind fun v29 => (byVal (callW gp) hh fid.vec_det [y6]).bind fun v30 => (byVal (callW gp) hh fid.vec_op_of [(.fn fid.rat_Mul []), v29, v30]).bind fun v31 => (opStore (@HAppend.hAppend Heap Heap Heap _ hh [some [.bool false, .str ⟨#[]⟩, .str ⟨#[]⟩]]) 3 (.rp (List.length (hh : Heap)) 0) v31).bind fun h32 => (opBin .and y4 (.int .i64 1)).bind fun v33 => (opBin .eql v33 (.int .i64 1)).bind fun v34 => condK v34 ((opLoad h32 (some 3) y3).bind fun v35 => (opLoad h32 (some 3) (.rp (List.length (hh : Heap)) 0)).bind fun v36 => (byVal (callW gp) h32 fid.vec_op_of [(.fn fid.rat_Sub []), v35, v36]).bind fun v37 => (opStore h32 3 y3 v37).bind fun h38 => (opBin .add y23 (.int .i64 1)).bind fun v43 => vec_det.l0 y0 y2 y3 y21 y22 v43 h38) ((opLoad h32 (some 3) y3).bind fun v39 => (opLoad h32 (some 3) (.rp (List.length (hh : Heap)) 0)).bind fun v40 => (byVal (callW gp) h32 fid.vec_op_of [(.fn fid.rat_Add []), v39, v40]).bind fun v41 => (opStore h32 3 y3 v41).bind fun h42 => (opBin .add y23 (.int .i64 1)).bind fun v44 => vec_det.l0 y0 y2 y3 y21 y22 v44 h42))) :=
  (loopAt_eq gp vec_det.fn [true, true, true, false, true, false, false, true, true, false, false, true, true, false, true, false] (fun v h => freeze h v) ⟨frame 60 [(0, y0), (2, y2), (3, y3), (4, y4), (5, y5), (6, y6), (21, y21), (22, y22), (23, y23), (29, y29), (30, y30), (31, y31)], hh⟩).trans (by kernel_rfl)
theorem vec_det.l0_eq (y0 : AV) (y2 : AV) (y3 : AV) (y21 : AV) (y22 : AV) (y23 : AV) (hh : Heap) : vec_det.l0 y0 y2 y3 y21 y22 y23 hh =
    ((opBin .lss y23 y22).bind fun v14 => condK v14 ((opSidx 3 y21 y23).bind fun v15 => (opLoad hh (some 3) v15).bind fun v16 => (opStore (@HAppend.hAppend Heap Heap Heap _ hh [some [.bool false, .str ⟨#[]⟩, .str ⟨#[]⟩]]) 3 (.rp (List.length (hh : Heap)) 0) v16).bind fun h17 => (opSlc 1 y0 (some (.int .i64 1)) none none).bind fun v18 => (opLen false v18).bind fun v19 => vec_det.l1 y0 y2 y3 y23 (.rp (List.length (hh : Heap)) 0) (.is 0 true []) y21 y22 y23 v18 v19 (.int .i64 0) h17) ((opLoad hh (some 3) y3).bind fun v45 => (opStore hh 3 y2 v45).bind fun h46 => (opLoad h46 (some 3) y2).bind fun v47 => freeze h46 v47)) :=
  (loopAt_eq gp vec_det.fn [true, true, true, false, true, false] (fun v h => freeze h v) ⟨frame 60 [(0, y0), (2, y2), (3, y3), (21, y21), (22, y22), (23, y23)], hh⟩).trans (by kernel_rfl)
theorem vec_det.eq (a0 : AV) : cv gp fid.vec_det [a0] = vec_det.f a0 :=
  (cv_eq gp fid.vec_det [a0] vec_det.fn_eq).trans (by kernel_rfl)

/-! gusset vec.Cross -/
noncomputable def vec_Cross.fn : AFun := (gp.fn fid.vec_Cross).getD default
theorem vec_Cross.fn_eq : gp.fn fid.vec_Cross = some vec_Cross.fn := by kernel_rfl
noncomputable def vec_Cross.f (a0 : AV) (a1 : AV) : Option AV :=
  (opBox [] a0).bind fun r1 => (opBox r1.2 a1).bind fun r2 => (opLoad (@HAppend.hAppend Heap Heap Heap _ r2.2 [some [.bool false, .str ⟨#[]⟩, .str ⟨#[]⟩]]) (some 6) r1.1).bind fun v3 => (opLoad (@HAppend.hAppend Heap Heap Heap _ r2.2 [some [.bool false, .str ⟨#[]⟩, .str ⟨#[]⟩]]) (some 6) r2.1).bind fun v4 => (opBslc 6 2 [.bool false, .str ⟨#[]⟩, .str ⟨#[]⟩, .bool false, .str ⟨#[]⟩, .str ⟨#[]⟩] [(0, v3), (1, v4)]).bind fun v5 => (byVal (callW gp) (@HAppend.hAppend Heap Heap Heap _ r2.2 [some [.bool false, .str ⟨#[]⟩, .str ⟨#[]⟩]]) fid.vec_points [v5]).bind fun v6 => (opBin .neq v6 (.int .i64 0)).bind fun v7 => condK v7 ((opBld [.bool false, .str ⟨#[]⟩, .str ⟨#[]⟩] []).bind fun v8 => (opStore (@HAppend.hAppend Heap Heap Heap _ r2.2 [some [.bool false, .str ⟨#[]⟩, .str ⟨#[]⟩]]) 3 (.rp (List.length (r2.2 : Heap)) 0) v8).bind fun h9 => (opLoad h9 (some 3) (.rp (List.length (r2.2 : Heap)) 0)).bind fun v10 => freeze h9 (.tup [v10, v6])) ((opFaddr 0 r1.1).bind fun v11 => (opLoad (@HAppend.hAppend Heap Heap Heap _ r2.2 [some [.bool false, .str ⟨#[]⟩, .str ⟨#[]⟩]]) (some 3) v11).bind fun v12 => (opFaddr 3 r2.1).bind fun v13 => (opLoad (@HAppend.hAppend Heap Heap Heap _ r2.2 [some [.bool false, .str ⟨#[]⟩, .str ⟨#[]⟩]]) (some 3) v13).bind fun v14 => (opFaddr 3 r1.1).bind fun v15 => (opLoad (@HAppend.hAppend Heap Heap Heap _ r2.2 [some [.bool false, .str ⟨#[]⟩, .str ⟨#[]⟩]]) (some 3) v15).bind fun v16 => (opFaddr 0 r2.1).bind fun v17 => (opLoad (@HAppend.hAppend Heap Heap Heap _ r2.2 [some [.bool false, .str ⟨#[]⟩, .str ⟨#[]⟩]]) (some 3) v17).bind fun v18 => (byVal (callW gp) (@HAppend.hAppend Heap Heap Heap _ r2.2 [some [.bool false, .str ⟨#[]⟩, .str ⟨#[]⟩]]) fid.vec_pair [v12, v14, v16, v18, (.fn fid.rat_Sub [])]).bind fun v19 => (opExt 0 v19).bind fun v20 => (opExt 1 v19).bind fun v21 => (opStore (@HAppend.hAppend Heap Heap Heap _ r2.2 [some [.bool false, .str ⟨#[]⟩, .str ⟨#[]⟩]]) 3 (.rp (List.length (r2.2 : Heap)) 0) v20).bind fun h22 => (opLoad h22 (some 3) (.rp (List.length (r2.2 : Heap)) 0)).bind fun v23 => freeze h22 (.tup [v23, v21]))
theorem vec_Cross.eq (a0 : AV) (a1 : AV) : cv gp fid.vec_Cross [a0, a1] = vec_Cross.f a0 a1 :=
  (cv_eq gp fid.vec_Cross [a0, a1] vec_Cross.fn_eq).trans (by kernel_rfl)

/-! gusset vec.each -/
noncomputable def vec_each.fn : AFun := (gp.fn fid.vec_each).getD default
theorem vec_each.fn_eq : gp.fn fid.vec_each = some vec_each.fn := by kernel_rfl
noncomputable def vec_each.f (a0 : AV) (a1 : AV) (a2 : AV) : Option AV :=
  (opBox [] a0).bind fun r1 => (opBox r1.2 a1).bind fun r2 => (opLoad (@HAppend.hAppend Heap Heap Heap _ r2.2 [some [.bool false, .str ⟨#[]⟩, .str ⟨#[]⟩, .bool false, .str ⟨#[]⟩, .str ⟨#[]⟩]]) (some 6) r1.1).bind fun v3 => (opLoad (@HAppend.hAppend Heap Heap Heap _ r2.2 [some [.bool false, .str ⟨#[]⟩, .str ⟨#[]⟩, .bool false, .str ⟨#[]⟩, .str ⟨#[]⟩]]) (some 6) r2.1).bind fun v4 => (opBslc 6 2 [.bool false, .str ⟨#[]⟩, .str ⟨#[]⟩, .bool false, .str ⟨#[]⟩, .str ⟨#[]⟩] [(0, v3), (1, v4)]).bind fun v5 => (byVal (callW gp) (@HAppend.hAppend Heap Heap Heap _ r2.2 [some [.bool false, .str ⟨#[]⟩, .str ⟨#[]⟩, .bool false, .str ⟨#[]⟩, .str ⟨#[]⟩]]) fid.vec_points [v5]).bind fun v6 => (opBin .neq v6 (.int .i64 0)).bind fun v7 => condK v7 ((opBld [.bool false, .str ⟨#[]⟩, .str ⟨#[]⟩, .bool false, .str ⟨#[]⟩, .str ⟨#[]⟩] []).bind fun v8 => (opStore (@HAppend.hAppend Heap Heap Heap _ r2.2 [some [.bool false, .str ⟨#[]⟩, .str ⟨#[]⟩, .bool false, .str ⟨#[]⟩, .str ⟨#[]⟩]]) 6 (.rp (List.length (r2.2 : Heap)) 0) v8).bind fun h9 => (opLoad h9 (some 6) (.rp (List.length (r2.2 : Heap)) 0)).bind fun v10 => freeze h9 (.tup [v10, v6])) ((opFaddr 0 r1.1).bind fun v11 => (opLoad (@HAppend.hAppend Heap Heap Heap _ r2.2 [some [.bool false, .str ⟨#[]⟩, .str ⟨#[]⟩, .bool false, .str ⟨#[]⟩, .str ⟨#[]⟩]]) (some 3) v11).bind fun v12 => (opFaddr 0 r2.1).bind fun v13 => (opLoad (@HAppend.hAppend Heap Heap Heap _ r2.2 [some [.bool false, .str ⟨#[]⟩, .str ⟨#[]⟩, .bool false, .str ⟨#[]⟩, .str ⟨#[]⟩]]) (some 3) v13).bind fun v14 => (byVal (callW gp) (@HAppend.hAppend Heap Heap Heap _ r2.2 [some [.bool false, .str ⟨#[]⟩, .str ⟨#[]⟩, .bool false, .str ⟨#[]⟩, .str ⟨#[]⟩]]) fid.vec_op_of [a2, v12, v14]).bind fun v15 => (opFaddr 3 r1.1).bind fun v16 => (opLoad (@HAppend.hAppend Heap Heap Heap _ r2.2 [some [.bool false, .str ⟨#[]⟩, .str ⟨#[]⟩, .bool false, .str ⟨#[]⟩, .str ⟨#[]⟩]]) (some 3) v16).bind fun v17 => (opFaddr 3 r2.1).bind fun v18 => (opLoad (@HAppend.hAppend Heap Heap Heap _ r2.2 [some [.bool false, .str ⟨#[]⟩, .str ⟨#[]⟩, .bool false, .str ⟨#[]⟩, .str ⟨#[]⟩]]) (some 3) v18).bind fun v19 => (byVal (callW gp) (@HAppend.hAppend Heap Heap Heap _ r2.2 [some [.bool false, .str ⟨#[]⟩, .str ⟨#[]⟩, .bool false, .str ⟨#[]⟩, .str ⟨#[]⟩]]) fid.vec_op_of [a2, v17, v19]).bind fun v20 => (opBld [.bool false, .str ⟨#[]⟩, .str ⟨#[]⟩, .bool false, .str ⟨#[]⟩, .str ⟨#[]⟩] [(0, 3, v15), (3, 3, v20)]).bind fun v21 => (opStore (@HAppend.hAppend Heap Heap Heap _ r2.2 [some [.bool false, .str ⟨#[]⟩, .str ⟨#[]⟩, .bool false, .str ⟨#[]⟩, .str ⟨#[]⟩]]) 6 (.rp (List.length (r2.2 : Heap)) 0) v21).bind fun h22 => (opLoad h22 (some 6) (.rp (List.length (r2.2 : Heap)) 0)).bind fun v23 => freeze h22 (.tup [v23, (.int .i64 0)]))
theorem vec_each.eq (a0 : AV) (a1 : AV) (a2 : AV) : cv gp fid.vec_each [a0, a1, a2] = vec_each.f a0 a1 a2 :=
  (cv_eq gp fid.vec_each [a0, a1, a2] vec_each.fn_eq).trans (by kernel_rfl)

/-! gusset gussetref04.Cross -/
noncomputable def gussetref04_Cross.fn : AFun := (gp.fn fid.gussetref04_Cross).getD default
theorem gussetref04_Cross.fn_eq : gp.fn fid.gussetref04_Cross = some gussetref04_Cross.fn := by kernel_rfl
noncomputable def gussetref04_Cross.f (a0 : AV) (a1 : AV) : Option AV :=
  (opBox [] a0).bind fun r1 => (opBox r1.2 a1).bind fun r2 => (opFaddr 0 r1.1).bind fun v3 => (opLoad (@HAppend.hAppend Heap Heap Heap _ r2.2 [some [.bool false, .str ⟨#[]⟩, .str ⟨#[]⟩]]) (some 3) v3).bind fun v4 => (opFaddr 3 r2.1).bind fun v5 => (opLoad (@HAppend.hAppend Heap Heap Heap _ r2.2 [some [.bool false, .str ⟨#[]⟩, .str ⟨#[]⟩]]) (some 3) v5).bind fun v6 => (byVal (callW gp) (@HAppend.hAppend Heap Heap Heap _ r2.2 [some [.bool false, .str ⟨#[]⟩, .str ⟨#[]⟩]]) fid.gussetref03_Times [v4, v6]).bind fun v7 => (opFaddr 3 r1.1).bind fun v8 => (opLoad (@HAppend.hAppend Heap Heap Heap _ r2.2 [some [.bool false, .str ⟨#[]⟩, .str ⟨#[]⟩]]) (some 3) v8).bind fun v9 => (opFaddr 0 r2.1).bind fun v10 => (opLoad (@HAppend.hAppend Heap Heap Heap _ r2.2 [some [.bool false, .str ⟨#[]⟩, .str ⟨#[]⟩]]) (some 3) v10).bind fun v11 => (byVal (callW gp) (@HAppend.hAppend Heap Heap Heap _ r2.2 [some [.bool false, .str ⟨#[]⟩, .str ⟨#[]⟩]]) fid.gussetref03_Times [v9, v11]).bind fun v12 => (byVal (callW gp) (@HAppend.hAppend Heap Heap Heap _ r2.2 [some [.bool false, .str ⟨#[]⟩, .str ⟨#[]⟩]]) fid.gussetref03_Less [v7, v12]).bind fun v13 => (opStore (@HAppend.hAppend Heap Heap Heap _ r2.2 [some [.bool false, .str ⟨#[]⟩, .str ⟨#[]⟩]]) 3 (.rp (List.length (r2.2 : Heap)) 0) v13).bind fun h14 => (opLoad h14 (some 3) (.rp (List.length (r2.2 : Heap)) 0)).bind fun v15 => freeze h14 v15
theorem gussetref04_Cross.eq (a0 : AV) (a1 : AV) : cv gp fid.gussetref04_Cross [a0, a1] = gussetref04_Cross.f a0 a1 :=
  (cv_eq gp fid.gussetref04_Cross [a0, a1] gussetref04_Cross.fn_eq).trans (by kernel_rfl)

/-! gusset gussetref04.Minus -/
noncomputable def gussetref04_Minus.fn : AFun := (gp.fn fid.gussetref04_Minus).getD default
theorem gussetref04_Minus.fn_eq : gp.fn fid.gussetref04_Minus = some gussetref04_Minus.fn := by kernel_rfl
noncomputable def gussetref04_Minus.f (a0 : AV) (a1 : AV) : Option AV :=
  (opBox [] a0).bind fun r1 => (opBox r1.2 a1).bind fun r2 => (opFaddr 0 r1.1).bind fun v3 => (opLoad (@HAppend.hAppend Heap Heap Heap _ r2.2 [some [.bool false, .str ⟨#[]⟩, .str ⟨#[]⟩, .bool false, .str ⟨#[]⟩, .str ⟨#[]⟩]]) (some 3) v3).bind fun v4 => (opFaddr 0 r2.1).bind fun v5 => (opLoad (@HAppend.hAppend Heap Heap Heap _ r2.2 [some [.bool false, .str ⟨#[]⟩, .str ⟨#[]⟩, .bool false, .str ⟨#[]⟩, .str ⟨#[]⟩]]) (some 3) v5).bind fun v6 => (byVal (callW gp) (@HAppend.hAppend Heap Heap Heap _ r2.2 [some [.bool false, .str ⟨#[]⟩, .str ⟨#[]⟩, .bool false, .str ⟨#[]⟩, .str ⟨#[]⟩]]) fid.gussetref03_Less [v4, v6]).bind fun v7 => (opFaddr 3 r1.1).bind fun v8 => (opLoad (@HAppend.hAppend Heap Heap Heap _ r2.2 [some [.bool false, .str ⟨#[]⟩, .str ⟨#[]⟩, .bool false, .str ⟨#[]⟩, .str ⟨#[]⟩]]) (some 3) v8).bind fun v9 => (opFaddr 3 r2.1).bind fun v10 => (opLoad (@HAppend.hAppend Heap Heap Heap _ r2.2 [some [.bool false, .str ⟨#[]⟩, .str ⟨#[]⟩, .bool false, .str ⟨#[]⟩, .str ⟨#[]⟩]]) (some 3) v10).bind fun v11 => (byVal (callW gp) (@HAppend.hAppend Heap Heap Heap _ r2.2 [some [.bool false, .str ⟨#[]⟩, .str ⟨#[]⟩, .bool false, .str ⟨#[]⟩, .str ⟨#[]⟩]]) fid.gussetref03_Less [v9, v11]).bind fun v12 => (opBld [.bool false, .str ⟨#[]⟩, .str ⟨#[]⟩, .bool false, .str ⟨#[]⟩, .str ⟨#[]⟩] [(0, 3, v7), (3, 3, v12)]).bind fun v13 => (opStore (@HAppend.hAppend Heap Heap Heap _ r2.2 [some [.bool false, .str ⟨#[]⟩, .str ⟨#[]⟩, .bool false, .str ⟨#[]⟩, .str ⟨#[]⟩]]) 6 (.rp (List.length (r2.2 : Heap)) 0) v13).bind fun h14 => (opLoad h14 (some 6) (.rp (List.length (r2.2 : Heap)) 0)).bind fun v15 => freeze h14 v15
theorem gussetref04_Minus.eq (a0 : AV) (a1 : AV) : cv gp fid.gussetref04_Minus [a0, a1] = gussetref04_Minus.f a0 a1 :=
  (cv_eq gp fid.gussetref04_Minus [a0, a1] gussetref04_Minus.fn_eq).trans (by kernel_rfl)

/-! gusset gussetref04.Dot -/
noncomputable def gussetref04_Dot.fn : AFun := (gp.fn fid.gussetref04_Dot).getD default
theorem gussetref04_Dot.fn_eq : gp.fn fid.gussetref04_Dot = some gussetref04_Dot.fn := by kernel_rfl
noncomputable def gussetref04_Dot.f (a0 : AV) (a1 : AV) : Option AV :=
  (opBox [] a0).bind fun r1 => (opBox r1.2 a1).bind fun r2 => (opFaddr 0 r1.1).bind fun v3 => (opLoad (@HAppend.hAppend Heap Heap Heap _ r2.2 [some [.bool false, .str ⟨#[]⟩, .str ⟨#[]⟩]]) (some 3) v3).bind fun v4 => (opFaddr 0 r2.1).bind fun v5 => (opLoad (@HAppend.hAppend Heap Heap Heap _ r2.2 [some [.bool false, .str ⟨#[]⟩, .str ⟨#[]⟩]]) (some 3) v5).bind fun v6 => (byVal (callW gp) (@HAppend.hAppend Heap Heap Heap _ r2.2 [some [.bool false, .str ⟨#[]⟩, .str ⟨#[]⟩]]) fid.gussetref03_Times [v4, v6]).bind fun v7 => (opFaddr 3 r1.1).bind fun v8 => (opLoad (@HAppend.hAppend Heap Heap Heap _ r2.2 [some [.bool false, .str ⟨#[]⟩, .str ⟨#[]⟩]]) (some 3) v8).bind fun v9 => (opFaddr 3 r2.1).bind fun v10 => (opLoad (@HAppend.hAppend Heap Heap Heap _ r2.2 [some [.bool false, .str ⟨#[]⟩, .str ⟨#[]⟩]]) (some 3) v10).bind fun v11 => (byVal (callW gp) (@HAppend.hAppend Heap Heap Heap _ r2.2 [some [.bool false, .str ⟨#[]⟩, .str ⟨#[]⟩]]) fid.gussetref03_Times [v9, v11]).bind fun v12 => (byVal (callW gp) (@HAppend.hAppend Heap Heap Heap _ r2.2 [some [.bool false, .str ⟨#[]⟩, .str ⟨#[]⟩]]) fid.gussetref03_Sum [v7, v12]).bind fun v13 => (opStore (@HAppend.hAppend Heap Heap Heap _ r2.2 [some [.bool false, .str ⟨#[]⟩, .str ⟨#[]⟩]]) 3 (.rp (List.length (r2.2 : Heap)) 0) v13).bind fun h14 => (opLoad h14 (some 3) (.rp (List.length (r2.2 : Heap)) 0)).bind fun v15 => freeze h14 v15
theorem gussetref04_Dot.eq (a0 : AV) (a1 : AV) : cv gp fid.gussetref04_Dot [a0, a1] = gussetref04_Dot.f a0 a1 :=
  (cv_eq gp fid.gussetref04_Dot [a0, a1] gussetref04_Dot.fn_eq).trans (by kernel_rfl)

/-! slices.Contains[[]gusset api.Point,gusset api.Point] -/
/-! slices.ContainsFunc[[]gusset api.Seg,gusset api.Seg] -/
/-! gusset vec.pair -/
noncomputable def vec_pair.fn : AFun := (gp.fn fid.vec_pair).getD default
theorem vec_pair.fn_eq : gp.fn fid.vec_pair = some vec_pair.fn := by kernel_rfl
noncomputable def vec_pair.f (a0 : AV) (a1 : AV) (a2 : AV) (a3 : AV) (a4 : AV) : Option AV :=
  (opBox [] a0).bind fun r1 => (opBox r1.2 a1).bind fun r2 => (opBox r2.2 a2).bind fun r3 => (opBox r3.2 a3).bind fun r4 => (opLoad (@HAppend.hAppend Heap Heap Heap _ r4.2 [some [.bool false, .str ⟨#[]⟩, .str ⟨#[]⟩]]) (some 3) r1.1).bind fun v5 => (opLoad (@HAppend.hAppend Heap Heap Heap _ r4.2 [some [.bool false, .str ⟨#[]⟩, .str ⟨#[]⟩]]) (some 3) r3.1).bind fun v6 => (opLoad (@HAppend.hAppend Heap Heap Heap _ r4.2 [some [.bool false, .str ⟨#[]⟩, .str ⟨#[]⟩]]) (some 3) r2.1).bind fun v7 => (opLoad (@HAppend.hAppend Heap Heap Heap _ r4.2 [some [.bool false, .str ⟨#[]⟩, .str ⟨#[]⟩]]) (some 3) r4.1).bind fun v8 => (opBslc 3 4 [.bool false, .str ⟨#[]⟩, .str ⟨#[]⟩] [(0, v5), (1, v6), (2, v7), (3, v8)]).bind fun v9 => (byVal (callW gp) (@HAppend.hAppend Heap Heap Heap _ r4.2 [some [.bool false, .str ⟨#[]⟩, .str ⟨#[]⟩]]) fid.vec_numbers [v9]).bind fun v10 => (opBin .neq v10 (.int .i64 0)).bind fun v11 => condK v11 ((opBld [.bool false, .str ⟨#[]⟩, .str ⟨#[]⟩] []).bind fun v12 => (opStore (@HAppend.hAppend Heap Heap Heap _ r4.2 [some [.bool false, .str ⟨#[]⟩, .str ⟨#[]⟩]]) 3 (.rp (List.length (r4.2 : Heap)) 0) v12).bind fun h13 => (opLoad h13 (some 3) (.rp (List.length (r4.2 : Heap)) 0)).bind fun v14 => freeze h13 (.tup [v14, v10])) ((opLoad (@HAppend.hAppend Heap Heap Heap _ r4.2 [some [.bool false, .str ⟨#[]⟩, .str ⟨#[]⟩]]) (some 3) r1.1).bind fun v15 => (opLoad (@HAppend.hAppend Heap Heap Heap _ r4.2 [some [.bool false, .str ⟨#[]⟩, .str ⟨#[]⟩]]) (some 3) r2.1).bind fun v16 => (byVal (callW gp) (@HAppend.hAppend Heap Heap Heap _ r4.2 [some [.bool false, .str ⟨#[]⟩, .str ⟨#[]⟩]]) fid.vec_op_of [(.fn fid.rat_Mul []), v15, v16]).bind fun v17 => (opLoad (@HAppend.hAppend Heap Heap Heap _ r4.2 [some [.bool false, .str ⟨#[]⟩, .str ⟨#[]⟩]]) (some 3) r3.1).bind fun v18 => (opLoad (@HAppend.hAppend Heap Heap Heap _ r4.2 [some [.bool false, .str ⟨#[]⟩, .str ⟨#[]⟩]]) (some 3) r4.1).bind fun v19 => (byVal (callW gp) (@HAppend.hAppend Heap Heap Heap _ r4.2 [some [.bool false, .str ⟨#[]⟩, .str ⟨#[]⟩]]) fid.vec_op_of [(.fn fid.rat_Mul []), v18, v19]).bind fun v20 => (byVal (callW gp) (@HAppend.hAppend Heap Heap Heap _ r4.2 [some [.bool false, .str ⟨#[]⟩, .str ⟨#[]⟩]]) fid.vec_op_of [a4, v17, v20]).bind fun v21 => (opStore (@HAppend.hAppend Heap Heap Heap _ r4.2 [some [.bool false, .str ⟨#[]⟩, .str ⟨#[]⟩]]) 3 (.rp (List.length (r4.2 : Heap)) 0) v21).bind fun h22 => (opLoad h22 (some 3) (.rp (List.length (r4.2 : Heap)) 0)).bind fun v23 => freeze h22 (.tup [v23, (.int .i64 0)]))
theorem vec_pair.eq (a0 : AV) (a1 : AV) (a2 : AV) (a3 : AV) (a4 : AV) : cv gp fid.vec_pair [a0, a1, a2, a3, a4] = vec_pair.f a0 a1 a2 a3 a4 :=
  (cv_eq gp fid.vec_pair [a0, a1, a2, a3, a4] vec_pair.fn_eq).trans (by kernel_rfl)

/-! slices.IndexFunc[[][]gusset api.Rat,[]gusset api.Rat] -/
noncomputable def slices_IndexFunc_LLapi_Rat_Lapi_Rat.fn : AFun := (gp.fn fid.slices_IndexFunc_LLapi_Rat_Lapi_Rat).getD default
theorem slices_IndexFunc_LLapi_Rat_Lapi_Rat.fn_eq : gp.fn fid.slices_IndexFunc_LLapi_Rat_Lapi_Rat = some slices_IndexFunc_LLapi_Rat_Lapi_Rat.fn := by kernel_rfl
noncomputable def slices_IndexFunc_LLapi_Rat_Lapi_Rat.l0 (y0 : AV) (y1 : AV) (y7 : AV) (y8 : AV) (hh : Heap) : Option AV := loopAt gp slices_IndexFunc_LLapi_Rat_Lapi_Rat.fn [true, false, true, false] (fun v h => freeze h v) ⟨frame 19 [(0, y0), (1, y1), (7, y7), (8, y8)], hh⟩
noncomputable def slices_IndexFunc_LLapi_Rat_Lapi_Rat.f (a0 : AV) (a1 : AV) : Option AV :=
  (opLen false a0).bind fun v1 => slices_IndexFunc_LLapi_Rat_Lapi_Rat.l0 a0 a1 v1 (.int .i64 0) []
theorem slices_IndexFunc_LLapi_Rat_Lapi_Rat.l0_eq (y0 : AV) (y1 : AV) (y7 : AV) (y8 : AV) (hh : Heap) : slices_IndexFunc_LLapi_Rat_Lapi_Rat.l0 y0 y1 y7 y8 hh =
    ((opBin .lss y8 y7).bind fun v2 => condK v2 ((opSidx 1 y0 y8).bind fun v3 => (opLoad hh none v3).bind fun v4 => callK' (callW gp) gp.refm hh y1 [v4] fun v5 h6 => condK v5 (freeze h6 y8) ((opBin .add y8 (.int .i64 1)).bind fun v7 => slices_IndexFunc_LLapi_Rat_Lapi_Rat.l0 y0 y1 y7 v7 h6)) (freeze hh (.int .i64 (-1)))) :=
  (loopAt_eq gp slices_IndexFunc_LLapi_Rat_Lapi_Rat.fn [true, false, true, false] (fun v h => freeze h v) ⟨frame 19 [(0, y0), (1, y1), (7, y7), (8, y8)], hh⟩).trans (by kernel_rfl)
theorem slices_IndexFunc_LLapi_Rat_Lapi_Rat.eq (a0 : AV) (a1 : AV) : cv gp fid.slices_IndexFunc_LLapi_Rat_Lapi_Rat [a0, a1] = slices_IndexFunc_LLapi_Rat_Lapi_Rat.f a0 a1 :=
  (cv_eq gp fid.slices_IndexFunc_LLapi_Rat_Lapi_Rat [a0, a1] slices_IndexFunc_LLapi_Rat_Lapi_Rat.fn_eq).trans (by kernel_rfl)

/-! slices.Grow[[]gusset api.Rat,gusset api.Rat] -/
noncomputable def slices_Grow_Lapi_Rat_api_Rat.fn : AFun := (gp.fn fid.slices_Grow_Lapi_Rat_api_Rat).getD default
theorem slices_Grow_Lapi_Rat_api_Rat.fn_eq : gp.fn fid.slices_Grow_Lapi_Rat_api_Rat = some slices_Grow_Lapi_Rat_api_Rat.fn := by kernel_rfl
noncomputable def slices_Grow_Lapi_Rat_api_Rat.f (a0 : AV) (a1 : AV) (hh : Heap) : Option (AV × Heap) :=
  (opBin .lss a1 (.int .i64 0)).bind fun v1 => condK v1 (none) ((opCap a0).bind fun v2 => (opLen false a0).bind fun v3 => (opBin .sub v2 v3).bind fun v4 => (opBin .sub a1 v4).bind fun v5 => (opBin .gtr v5 (.int .i64 0)).bind fun v6 => condK v6 ((opCap a0).bind fun v7 => (opSlcc 3 a0 none (some v7)).bind fun v8 => (opAppm hh 3 [.bool false, .str ⟨#[]⟩, .str ⟨#[]⟩] v8 v5).bind fun r9 => (opLen false a0).bind fun v10 => (opSlcc 3 r9.1 none (some v10)).bind fun v11 => some (v11, r9.2)) (some (a0, hh)))
theorem slices_Grow_Lapi_Rat_api_Rat.eq (a0 : AV) (a1 : AV) (hh : Heap) : callW gp fid.slices_Grow_Lapi_Rat_api_Rat [a0, a1] hh = slices_Grow_Lapi_Rat_api_Rat.f a0 a1 hh :=
  (callW_eqF gp fid.slices_Grow_Lapi_Rat_api_Rat [a0, a1] hh slices_Grow_Lapi_Rat_api_Rat.fn_eq).trans (by kernel_rfl)

/-! slices.Delete[[]gusset api.Rat,gusset api.Rat] -/
noncomputable def slices_Delete_Lapi_Rat_api_Rat.fn : AFun := (gp.fn fid.slices_Delete_Lapi_Rat_api_Rat).getD default
theorem slices_Delete_Lapi_Rat_api_Rat.fn_eq : gp.fn fid.slices_Delete_Lapi_Rat_api_Rat = some slices_Delete_Lapi_Rat_api_Rat.fn := by kernel_rfl
noncomputable def slices_Delete_Lapi_Rat_api_Rat.f (a0 : AV) (a1 : AV) (a2 : AV) (hh : Heap) : Option (AV × Heap) :=
  (opLen false a0).bind fun v1 => (opSlc 3 a0 (some a1) (some a2) (some v1)).bind fun v2 => (opBin .eql a1 a2).bind fun v3 => condK v3 (some (a0, hh)) ((opLen false a0).bind fun v4 => (opSlcc 3 a0 none (some a1)).bind fun v5 => (opSlcc 3 a0 (some a2) none).bind fun v6 => (opApp hh 3 v5 v6).bind fun r7 => (opLen false r7.1).bind fun v8 => (opSlcc 3 r7.1 (some v8) (some v4)).bind fun v9 => (opClr r7.2 3 [.bool false, .str ⟨#[]⟩, .str ⟨#[]⟩] v9).bind fun h10 => some (r7.1, h10))
theorem slices_Delete_Lapi_Rat_api_Rat.eq (a0 : AV) (a1 : AV) (a2 : AV) (hh : Heap) : callW gp fid.slices_Delete_Lapi_Rat_api_Rat [a0, a1, a2] hh = slices_Delete_Lapi_Rat_api_Rat.f a0 a1 a2 hh :=
  (callW_eqF gp fid.slices_Delete_Lapi_Rat_api_Rat [a0, a1, a2] hh slices_Delete_Lapi_Rat_api_Rat.fn_eq).trans (by kernel_rfl)

/-! slices.Clone[[]gusset api.Rat,gusset api.Rat] -/
noncomputable def slices_Clone_Lapi_Rat_api_Rat.fn : AFun := (gp.fn fid.slices_Clone_Lapi_Rat_api_Rat).getD default
theorem slices_Clone_Lapi_Rat_api_Rat.fn_eq : gp.fn fid.slices_Clone_Lapi_Rat_api_Rat = some slices_Clone_Lapi_Rat_api_Rat.fn := by kernel_rfl
noncomputable def slices_Clone_Lapi_Rat_api_Rat.f (a0 : AV) (hh : Heap) : Option (AV × Heap) :=
  (opNilq false a0).bind fun v1 => condK v1 (some ((.is 0 true []), hh)) ((opBslc 3 0 [.bool false, .str ⟨#[]⟩, .str ⟨#[]⟩] []).bind fun v2 => (opApp hh 3 v2 a0).bind fun r3 => some (r3.1, r3.2))
theorem slices_Clone_Lapi_Rat_api_Rat.eq (a0 : AV) (hh : Heap) : callW gp fid.slices_Clone_Lapi_Rat_api_Rat [a0] hh = slices_Clone_Lapi_Rat_api_Rat.f a0 hh :=
  (callW_eqF gp fid.slices_Clone_Lapi_Rat_api_Rat [a0] hh slices_Clone_Lapi_Rat_api_Rat.fn_eq).trans (by kernel_rfl)

/-! (gusset vec.op).of -/
noncomputable def vec_op_of.fn : AFun := (gp.fn fid.vec_op_of).getD default
theorem vec_op_of.fn_eq : gp.fn fid.vec_op_of = some vec_op_of.fn := by kernel_rfl
noncomputable def vec_op_of.f (a0 : AV) (a1 : AV) (a2 : AV) : Option AV :=
  (opBox [] a1).bind fun r1 => (opBox r1.2 a2).bind fun r2 => (opLoad (@HAppend.hAppend Heap Heap Heap _ r2.2 [some [.bool false, .str ⟨#[]⟩, .str ⟨#[]⟩]]) (some 3) r1.1).bind fun v3 => (opLoad (@HAppend.hAppend Heap Heap Heap _ r2.2 [some [.bool false, .str ⟨#[]⟩, .str ⟨#[]⟩]]) (some 3) r2.1).bind fun v4 => callK' (callW gp) gp.refm (@HAppend.hAppend Heap Heap Heap _ r2.2 [some [.bool false, .str ⟨#[]⟩, .str ⟨#[]⟩]]) a0 [v3, v4] fun v5 h6 => (opExt 0 v5).bind fun v7 => (opExt 1 v5).bind fun v8 => (opStore (@HAppend.hAppend Heap Heap Heap _ h6 [some [.bool false, .str ⟨#[]⟩, .str ⟨#[]⟩]]) 3 (.rp (List.length (h6 : Heap)) 0) v7).bind fun h9 => (opLoad h9 (some 3) (.rp (List.length (h6 : Heap)) 0)).bind fun v10 => (opStore h9 3 (.rp (List.length (r2.2 : Heap)) 0) v10).bind fun h11 => (opLoad h11 (some 3) (.rp (List.length (r2.2 : Heap)) 0)).bind fun v12 => freeze h11 v12
theorem vec_op_of.eq (a0 : AV) (a1 : AV) (a2 : AV) : cv gp fid.vec_op_of [a0, a1, a2] = vec_op_of.f a0 a1 a2 :=
  (cv_eq gp fid.vec_op_of [a0, a1, a2] vec_op_of.fn_eq).trans (by kernel_rfl)

/-! gusset vec.points -/
noncomputable def vec_points.fn : AFun := (gp.fn fid.vec_points).getD default
theorem vec_points.fn_eq : gp.fn fid.vec_points = some vec_points.fn := by kernel_rfl
noncomputable def vec_points.l0 (y6 : AV) (y7 : AV) (y8 : AV) (hh : Heap) : Option AV := loopAt gp vec_points.fn [true, false, true, false] (fun v h => freeze h v) ⟨frame 18 [(6, y6), (7, y7), (8, y8)], hh⟩
noncomputable def vec_points.f (a0 : AV) : Option AV :=
  (opLen false a0).bind fun v1 => vec_points.l0 a0 v1 (.int .i64 0) []
theorem vec_points.l0_eq (y6 : AV) (y7 : AV) (y8 : AV) (hh : Heap) : vec_points.l0 y6 y7 y8 hh =
    ((opBin .lss y8 y7).bind fun v2 => condK v2 ((opSidx 6 y6 y8).bind fun v3 => (opLoad hh (some 6) v3).bind fun v4 => (opStore (@HAppend.hAppend Heap Heap Heap _ hh [some [.bool false, .str ⟨#[]⟩, .str ⟨#[]⟩, .bool false, .str ⟨#[]⟩, .str ⟨#[]⟩]]) 6 (.rp (List.length (hh : Heap)) 0) v4).bind fun h5 => (opLoad h5 (some 6) (.rp (List.length (hh : Heap)) 0)).bind fun v6 => (byVal (callW gp) h5 fid.vec_Check [v6]).bind fun v7 => (opBin .neq v7 (.int .i64 0)).bind fun v8 => condK v8 (freeze h5 v7) ((opBin .add y8 (.int .i64 1)).bind fun v9 => vec_points.l0 y6 y7 v9 h5)) (freeze hh (.int .i64 0))) :=
  (loopAt_eq gp vec_points.fn [true, false, true, false] (fun v h => freeze h v) ⟨frame 18 [(6, y6), (7, y7), (8, y8)], hh⟩).trans (by kernel_rfl)
theorem vec_points.eq (a0 : AV) : cv gp fid.vec_points [a0] = vec_points.f a0 :=
  (cv_eq gp fid.vec_points [a0] vec_points.fn_eq).trans (by kernel_rfl)

/-! slices.Index[[]gusset api.Point,gusset api.Point] -/
/-! slices.IndexFunc[[]gusset api.Seg,gusset api.Seg] -/
/-! gusset gussetref04.Norm2 -/
end Go.Proofs.YtechbfodaallkaaGreat.Am
