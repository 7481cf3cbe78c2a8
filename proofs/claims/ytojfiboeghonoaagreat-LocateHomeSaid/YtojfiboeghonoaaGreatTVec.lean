import Derived.Test.YtojfiboeghonoaaGreatAmGp
set_option linter.unusedVariables false
set_option maxRecDepth 10000
set_option maxHeartbeats 0
namespace Go.Proofs.YtojfiboeghonoaaGreat.Am
open Go
/-! gusset gussetref04.Check -/
noncomputable def gussetref04_Check.fn : AFun := (gp.fn fid.gussetref04_Check).getD default
theorem gussetref04_Check.fn_eq : gp.fn fid.gussetref04_Check = some gussetref04_Check.fn := by kernel_rfl
noncomputable def gussetref04_Check.f (a0 : AV) : Option AV :=
  (opBox [] a0).bind fun r1 => (opFaddr 0 r1.1).bind fun v2 => (opLoad r1.2 (some 3) v2).bind fun v3 => (opFaddr 3 r1.1).bind fun v4 => (opLoad r1.2 (some 3) v4).bind fun v5 => (byVal (callW gp) r1.2 fid.gussetref03_Both [v3, v5]).bind fun v6 => freeze r1.2 v6
theorem gussetref04_Check.eq (a0 : AV) : cv gp fid.gussetref04_Check [a0] = gussetref04_Check.f a0 :=
  (cv_eq gp fid.gussetref04_Check [a0] gussetref04_Check.fn_eq).trans (by kernel_rfl)

/-! slices.Contains[[]int,int] -/
noncomputable def slices_Contains_Lint_int.fn : AFun := (gp.fn fid.slices_Contains_Lint_int).getD default
theorem slices_Contains_Lint_int.fn_eq : gp.fn fid.slices_Contains_Lint_int = some slices_Contains_Lint_int.fn := by kernel_rfl
noncomputable def slices_Contains_Lint_int.f (a0 : AV) (a1 : AV) : Option AV :=
  (byVal (callW gp) [] fid.slices_Index_Lint_int [a0, a1]).bind fun v1 => (opBin .geq v1 (.int .i64 0)).bind fun v2 => freeze [] v2
theorem slices_Contains_Lint_int.eq (a0 : AV) (a1 : AV) : cv gp fid.slices_Contains_Lint_int [a0, a1] = slices_Contains_Lint_int.f a0 a1 :=
  (cv_eq gp fid.slices_Contains_Lint_int [a0, a1] slices_Contains_Lint_int.fn_eq).trans (by kernel_rfl)

/-! gusset gussetref04.Cross -/
noncomputable def gussetref04_Cross.fn : AFun := (gp.fn fid.gussetref04_Cross).getD default
theorem gussetref04_Cross.fn_eq : gp.fn fid.gussetref04_Cross = some gussetref04_Cross.fn := by kernel_rfl
noncomputable def gussetref04_Cross.f (a0 : AV) (a1 : AV) : Option AV :=
  (opBox [] a0).bind fun r1 => (opBox r1.2 a1).bind fun r2 => (opFaddr 0 r1.1).bind fun v3 => (opLoad (@HAppend.hAppend Heap Heap Heap _ r2.2 [some [.bool false, .str ⟨#[]⟩, .str ⟨#[]⟩]]) (some 3) v3).bind fun v4 => (opFaddr 3 r2.1).bind fun v5 => (opLoad (@HAppend.hAppend Heap Heap Heap _ r2.2 [some [.bool false, .str ⟨#[]⟩, .str ⟨#[]⟩]]) (some 3) v5).bind fun v6 => (byVal (callW gp) (@HAppend.hAppend Heap Heap Heap _ r2.2 [some [.bool false, .str ⟨#[]⟩, .str ⟨#[]⟩]]) fid.gussetref03_Times [v4, v6]).bind fun v7 => (opFaddr 3 r1.1).bind fun v8 => (opLoad (@HAppend.hAppend Heap Heap Heap _ r2.2 [some [.bool false, .str ⟨#[]⟩, .str ⟨#[]⟩]]) (some 3) v8).bind fun v9 => (opFaddr 0 r2.1).bind fun v10 => (opLoad (@HAppend.hAppend Heap Heap Heap _ r2.2 [some [.bool false, .str ⟨#[]⟩, .str ⟨#[]⟩]]) (some 3) v10).bind fun v11 => (byVal (callW gp) (@HAppend.hAppend Heap Heap Heap _ r2.2 [some [.bool false, .str ⟨#[]⟩, .str ⟨#[]⟩]]) fid.gussetref03_Times [v9, v11]).bind fun v12 => (byVal (callW gp) (@HAppend.hAppend Heap Heap Heap _ r2.2 [some [.bool false, .str ⟨#[]⟩, .str ⟨#[]⟩]]) fid.gussetref03_Less [v7, v12]).bind fun v13 => (opStore (@HAppend.hAppend Heap Heap Heap _ r2.2 [some [.bool false, .str ⟨#[]⟩, .str ⟨#[]⟩]]) 3 (.rp (List.length (r2.2 : Heap)) 0) v13).bind fun h14 => (opLoad h14 (some 3) (.rp (List.length (r2.2 : Heap)) 0)).bind fun v15 => freeze h14 v15
theorem gussetref04_Cross.eq (a0 : AV) (a1 : AV) : cv gp fid.gussetref04_Cross [a0, a1] = gussetref04_Cross.f a0 a1 :=
  (cv_eq gp fid.gussetref04_Cross [a0, a1] gussetref04_Cross.fn_eq).trans (by kernel_rfl)

/-! gusset gussetref04.Minus -/
noncomputable def gussetref04_Minus.fn : AFun := (gp.fn fid.gussetref04_Minus).getD default
theorem gussetref04_Minus.fn_eq : gp.fn fid.gussetref04_Minus = some gussetref04_Minus.fn := by kernel_rfl
noncomputable def gussetref04_Minus.f (a0 : AV) (a1 : AV) : Option AV :=
  (opBox [] a0).bind fun r1 => (opBox r1.2 a1).bind fun r2 => (opFaddr 0 r1.1).bind fun v3 => (opLoad (@HAppend.hAppend Heap Heap Heap _ r2.2 [some [.bool false, .str ⟨#[]⟩, .str ⟨#[]⟩, .bool false, .str ⟨#[]⟩, .str ⟨#[]⟩]]) (some 3) v3).bind fun v4 => (opFaddr 0 r2.1).bind fun v5 => (opLoad (@HAppend.hAppend Heap Heap Heap _ r2.2 [some [.bool false, .str ⟨#[]⟩, .str ⟨#[]⟩, .bool false, .str ⟨#[]⟩, .str ⟨#[]⟩]]) (some 3) v5).bind fun v6 => (byVal (callW gp) (@HAppend.hAppend Heap Heap Heap _ r2.2 [some [.bool false, .str ⟨#[]⟩, .str ⟨#[]⟩, .bool false, .str ⟨#[]⟩, .str ⟨#[]⟩]]) fid.gussetref03_Less [v4, v6]).bind fun v7 => (opFaddr 3 r1.1).bind fun v8 => (opLoad (@HAppend.hAppend Heap Heap Heap _ r2.2 [some [.bool false, .str ⟨#[]⟩, .str ⟨#[]⟩, .bool false, .str ⟨#[]⟩, .str ⟨#[]⟩]]) (some 3) v8).bind fun v9 => (opFaddr 3 r2.1).bind fun v10 => (opLoad (@HAppend.hAppend Heap Heap Heap _ r2.2 [some [.bool false, .str ⟨#[]⟩, .str ⟨#[]⟩, .bool false, .str ⟨#[]⟩, .str ⟨#[]⟩]]) (some 3) v10).bind fun v11 => (byVal (callW gp) (@HAppend.hAppend Heap Heap Heap _ r2.2 [some [.bool false, .str ⟨#[]⟩, .str ⟨#[]⟩, .bool false, .str ⟨#[]⟩, .str ⟨#[]⟩]]) fid.gussetref03_Less [v9, v11]).bind fun v12 => (opBld [.bool false, .str ⟨#[]⟩, .str ⟨#[]⟩, .bool false, .str ⟨#[]⟩, .str ⟨#[]⟩] [(0, 3, v7), (3, 3, v12)]).bind fun v13 => (opStore (@HAppend.hAppend Heap Heap Heap _ r2.2 [some [.bool false, .str ⟨#[]⟩, .str ⟨#[]⟩, .bool false, .str ⟨#[]⟩, .str ⟨#[]⟩]]) 6 (.rp (List.length (r2.2 : Heap)) 0) v13).bind fun h14 => (opLoad h14 (some 6) (.rp (List.length (r2.2 : Heap)) 0)).bind fun v15 => freeze h14 v15
theorem gussetref04_Minus.eq (a0 : AV) (a1 : AV) : cv gp fid.gussetref04_Minus [a0, a1] = gussetref04_Minus.f a0 a1 :=
  (cv_eq gp fid.gussetref04_Minus [a0, a1] gussetref04_Minus.fn_eq).trans (by kernel_rfl)

/-! slices.Index[[]int,int] -/
noncomputable def slices_Index_Lint_int.fn : AFun := (gp.fn fid.slices_Index_Lint_int).getD default
theorem slices_Index_Lint_int.fn_eq : gp.fn fid.slices_Index_Lint_int = some slices_Index_Lint_int.fn := by kernel_rfl
noncomputable def slices_Index_Lint_int.l0 (y0 : AV) (y1 : AV) (y7 : AV) (y8 : AV) : Option AV := loopAt gp slices_Index_Lint_int.fn [true, false, true, false] (fun v h => freeze h v) ⟨frame 19 [(0, y0), (1, y1), (7, y7), (8, y8)], []⟩
noncomputable def slices_Index_Lint_int.f (a0 : AV) (a1 : AV) : Option AV :=
  (opLen false a0).bind fun v1 => slices_Index_Lint_int.l0 a0 a1 v1 (.int .i64 0)
theorem slices_Index_Lint_int.l0_eq (y0 : AV) (y1 : AV) (y7 : AV) (y8 : AV) : slices_Index_Lint_int.l0 y0 y1 y7 y8 =
    ((opBin .lss y8 y7).bind fun v2 => condK v2 ((opSidx 1 y0 y8).bind fun v3 => (opLoad [] none v3).bind fun v4 => (opBin .eql y1 v4).bind fun v5 => condK v5 (freeze [] y8) ((opBin .add y8 (.int .i64 1)).bind fun v6 => slices_Index_Lint_int.l0 y0 y1 y7 v6)) (freeze [] (.int .i64 (-1)))) :=
  (loopAt_eq gp slices_Index_Lint_int.fn [true, false, true, false] (fun v h => freeze h v) ⟨frame 19 [(0, y0), (1, y1), (7, y7), (8, y8)], []⟩).trans (by kernel_rfl)
theorem slices_Index_Lint_int.eq (a0 : AV) (a1 : AV) : cv gp fid.slices_Index_Lint_int [a0, a1] = slices_Index_Lint_int.f a0 a1 :=
  (cv_eq gp fid.slices_Index_Lint_int [a0, a1] slices_Index_Lint_int.fn_eq).trans (by kernel_rfl)

/-! gusset vec.Check -/
noncomputable def vec_Check.fn : AFun := (gp.fn fid.vec_Check).getD default
theorem vec_Check.fn_eq : gp.fn fid.vec_Check = some vec_Check.fn := by kernel_rfl
noncomputable def vec_Check.f (a0 : AV) : Option AV :=
  (opBox [] a0).bind fun r1 => (opFaddr 0 r1.1).bind fun v2 => (opLoad r1.2 (some 3) v2).bind fun v3 => (opFaddr 3 r1.1).bind fun v4 => (opLoad r1.2 (some 3) v4).bind fun v5 => (opBslc 3 2 [.bool false, .str ⟨#[]⟩, .str ⟨#[]⟩] [(0, v3), (1, v5)]).bind fun v6 => (byVal (callW gp) r1.2 fid.vec_numbers [v6]).bind fun v7 => freeze r1.2 v7
theorem vec_Check.eq (a0 : AV) : cv gp fid.vec_Check [a0] = vec_Check.f a0 :=
  (cv_eq gp fid.vec_Check [a0] vec_Check.fn_eq).trans (by kernel_rfl)

/-! gusset vec.Cross -/
noncomputable def vec_Cross.fn : AFun := (gp.fn fid.vec_Cross).getD default
theorem vec_Cross.fn_eq : gp.fn fid.vec_Cross = some vec_Cross.fn := by kernel_rfl
noncomputable def vec_Cross.f (a0 : AV) (a1 : AV) : Option AV :=
  (opBox [] a0).bind fun r1 => (opBox r1.2 a1).bind fun r2 => (opLoad (@HAppend.hAppend Heap Heap Heap _ r2.2 [some [.bool false, .str ⟨#[]⟩, .str ⟨#[]⟩]]) (some 6) r1.1).bind fun v3 => (opLoad (@HAppend.hAppend Heap Heap Heap _ r2.2 [some [.bool false, .str ⟨#[]⟩, .str ⟨#[]⟩]]) (some 6) r2.1).bind fun v4 => (opBslc 6 2 [.bool false, .str ⟨#[]⟩, .str ⟨#[]⟩, .bool false, .str ⟨#[]⟩, .str ⟨#[]⟩] [(0, v3), (1, v4)]).bind fun v5 => (byVal (callW gp) (@HAppend.hAppend Heap Heap Heap _ r2.2 [some [.bool false, .str ⟨#[]⟩, .str ⟨#[]⟩]]) fid.vec_points [v5]).bind fun v6 => (opBin .neq v6 (.int .i64 0)).bind fun v7 => condK v7 ((opBld [.bool false, .str ⟨#[]⟩, .str ⟨#[]⟩] []).bind fun v8 => (opStore (@HAppend.hAppend Heap Heap Heap _ r2.2 [some [.bool false, .str ⟨#[]⟩, .str ⟨#[]⟩]]) 3 (.rp (List.length (r2.2 : Heap)) 0) v8).bind fun h9 => (opLoad h9 (some 3) (.rp (List.length (r2.2 : Heap)) 0)).bind fun v10 => freeze h9 (.tup [v10, v6])) ((opFaddr 0 r1.1).bind fun v11 => (opLoad (@HAppend.hAppend Heap Heap Heap _ r2.2 [some [.bool false, .str ⟨#[]⟩, .str ⟨#[]⟩]]) (some 3) v11).bind fun v12 => (opFaddr 3 r2.1).bind fun v13 => (opLoad (@HAppend.hAppend Heap Heap Heap _ r2.2 [some [.bool false, .str ⟨#[]⟩, .str ⟨#[]⟩]]) (some 3) v13).bind fun v14 => (opFaddr 3 r1.1).bind fun v15 => (opLoad (@HAppend.hAppend Heap Heap Heap _ r2.2 [some [.bool false, .str ⟨#[]⟩, .str ⟨#[]⟩]]) (some 3) v15).bind fun v16 => (opFaddr 0 r2.1).bind fun v17 => (opLoad (@HAppend.hAppend Heap Heap Heap _ r2.2 [some [.bool false, .str ⟨#[]⟩, .str ⟨#[]⟩]]) (some 3) v17).bind fun v18 => (byVal (callW gp) (@HAppend.hAppend Heap Heap Heap _ r2.2 [some [.bool false, .str ⟨#[]⟩, .str ⟨#[]⟩]]) fid.vec_pair [v12, v14, v16, v18, (.fn fid.rat_Sub [])]).bind fun v19 => (opExt 0 v19).bind fun v20 => (opExt 1 v19).bind fun v21 => (opStore (@HAppend.hAppend Heap Heap Heap _ r2.2 [some [.bool false, .str ⟨#[]⟩, .str ⟨#[]⟩]]) 3 (.rp (List.length (r2.2 : Heap)) 0) v20).bind fun h22 => (opLoad h22 (some 3) (.rp (List.length (r2.2 : Heap)) 0)).bind fun v23 => freeze h22 (.tup [v23, v21]))
theorem vec_Cross.eq (a0 : AV) (a1 : AV) : cv gp fid.vec_Cross [a0, a1] = vec_Cross.f a0 a1 :=
  (cv_eq gp fid.vec_Cross [a0, a1] vec_Cross.fn_eq).trans (by kernel_rfl)

/-! gusset vec.Minus -/
noncomputable def vec_Minus.fn : AFun := (gp.fn fid.vec_Minus).getD default
theorem vec_Minus.fn_eq : gp.fn fid.vec_Minus = some vec_Minus.fn := by kernel_rfl
noncomputable def vec_Minus.f (a0 : AV) (a1 : AV) : Option AV :=
  (opBox [] a0).bind fun r1 => (opBox r1.2 a1).bind fun r2 => (opLoad (@HAppend.hAppend Heap Heap Heap _ r2.2 [some [.bool false, .str ⟨#[]⟩, .str ⟨#[]⟩, .bool false, .str ⟨#[]⟩, .str ⟨#[]⟩]]) (some 6) r1.1).bind fun v3 => (opLoad (@HAppend.hAppend Heap Heap Heap _ r2.2 [some [.bool false, .str ⟨#[]⟩, .str ⟨#[]⟩, .bool false, .str ⟨#[]⟩, .str ⟨#[]⟩]]) (some 6) r2.1).bind fun v4 => (byVal (callW gp) (@HAppend.hAppend Heap Heap Heap _ r2.2 [some [.bool false, .str ⟨#[]⟩, .str ⟨#[]⟩, .bool false, .str ⟨#[]⟩, .str ⟨#[]⟩]]) fid.vec_each [v3, v4, (.fn fid.rat_Sub [])]).bind fun v5 => (opExt 0 v5).bind fun v6 => (opExt 1 v5).bind fun v7 => (opStore (@HAppend.hAppend Heap Heap Heap _ r2.2 [some [.bool false, .str ⟨#[]⟩, .str ⟨#[]⟩, .bool false, .str ⟨#[]⟩, .str ⟨#[]⟩]]) 6 (.rp (List.length (r2.2 : Heap)) 0) v6).bind fun h8 => (opLoad h8 (some 6) (.rp (List.length (r2.2 : Heap)) 0)).bind fun v9 => freeze h8 (.tup [v9, v7])
theorem vec_Minus.eq (a0 : AV) (a1 : AV) : cv gp fid.vec_Minus [a0, a1] = vec_Minus.f a0 a1 :=
  (cv_eq gp fid.vec_Minus [a0, a1] vec_Minus.fn_eq).trans (by kernel_rfl)

/-! slices.Min[[]int,int] -/
noncomputable def slices_Min_Lint_int.fn : AFun := (gp.fn fid.slices_Min_Lint_int).getD default
theorem slices_Min_Lint_int.fn_eq : gp.fn fid.slices_Min_Lint_int = some slices_Min_Lint_int.fn := by kernel_rfl
noncomputable def slices_Min_Lint_int.l0 (y0 : AV) (y3 : AV) (y4 : AV) : Option AV := loopAt gp slices_Min_Lint_int.fn [true, true, true, false, true, false] (fun v h => freeze h v) ⟨frame 25 [(0, y0), (3, y3), (4, y4)], []⟩
noncomputable def slices_Min_Lint_int.f (a0 : AV) : Option AV :=
  (opLen false a0).bind fun v1 => (opBin .lss v1 (.int .i64 1)).bind fun v2 => condK v2 (none) ((opSidx 1 a0 (.int .i64 0)).bind fun v3 => (opLoad [] none v3).bind fun v4 => slices_Min_Lint_int.l0 a0 v4 (.int .i64 1))
theorem slices_Min_Lint_int.l0_eq (y0 : AV) (y3 : AV) (y4 : AV) : slices_Min_Lint_int.l0 y0 y3 y4 =
    ((opLen false y0).bind fun v5 => (opBin .lss y4 v5).bind fun v6 => condK v6 ((opSidx 1 y0 y4).bind fun v7 => (opLoad [] none v7).bind fun v8 => (opMm false [y3, v8]).bind fun v9 => (opBin .add y4 (.int .i64 1)).bind fun v10 => slices_Min_Lint_int.l0 y0 v9 v10) (freeze [] y3)) :=
  (loopAt_eq gp slices_Min_Lint_int.fn [true, true, true, false, true, false] (fun v h => freeze h v) ⟨frame 25 [(0, y0), (3, y3), (4, y4)], []⟩).trans (by kernel_rfl)
theorem slices_Min_Lint_int.eq (a0 : AV) : cv gp fid.slices_Min_Lint_int [a0] = slices_Min_Lint_int.f a0 :=
  (cv_eq gp fid.slices_Min_Lint_int [a0] slices_Min_Lint_int.fn_eq).trans (by kernel_rfl)

/-! slices.Max[[]int,int] -/
noncomputable def slices_Max_Lint_int.fn : AFun := (gp.fn fid.slices_Max_Lint_int).getD default
theorem slices_Max_Lint_int.fn_eq : gp.fn fid.slices_Max_Lint_int = some slices_Max_Lint_int.fn := by kernel_rfl
noncomputable def slices_Max_Lint_int.l0 (y0 : AV) (y3 : AV) (y4 : AV) : Option AV := loopAt gp slices_Max_Lint_int.fn [true, true, true, false, true, false] (fun v h => freeze h v) ⟨frame 25 [(0, y0), (3, y3), (4, y4)], []⟩
noncomputable def slices_Max_Lint_int.f (a0 : AV) : Option AV :=
  (opLen false a0).bind fun v1 => (opBin .lss v1 (.int .i64 1)).bind fun v2 => condK v2 (none) ((opSidx 1 a0 (.int .i64 0)).bind fun v3 => (opLoad [] none v3).bind fun v4 => slices_Max_Lint_int.l0 a0 v4 (.int .i64 1))
theorem slices_Max_Lint_int.l0_eq (y0 : AV) (y3 : AV) (y4 : AV) : slices_Max_Lint_int.l0 y0 y3 y4 =
    ((opLen false y0).bind fun v5 => (opBin .lss y4 v5).bind fun v6 => condK v6 ((opSidx 1 y0 y4).bind fun v7 => (opLoad [] none v7).bind fun v8 => (opMm true [y3, v8]).bind fun v9 => (opBin .add y4 (.int .i64 1)).bind fun v10 => slices_Max_Lint_int.l0 y0 v9 v10) (freeze [] y3)) :=
  (loopAt_eq gp slices_Max_Lint_int.fn [true, true, true, false, true, false] (fun v h => freeze h v) ⟨frame 25 [(0, y0), (3, y3), (4, y4)], []⟩).trans (by kernel_rfl)
theorem slices_Max_Lint_int.eq (a0 : AV) : cv gp fid.slices_Max_Lint_int [a0] = slices_Max_Lint_int.f a0 :=
  (cv_eq gp fid.slices_Max_Lint_int [a0] slices_Max_Lint_int.fn_eq).trans (by kernel_rfl)

/-! gusset vec.numbers -/
noncomputable def vec_numbers.fn : AFun := (gp.fn fid.vec_numbers).getD default
theorem vec_numbers.fn_eq : gp.fn fid.vec_numbers = some vec_numbers.fn := by kernel_rfl
noncomputable def vec_numbers.l0 (y6 : AV) (y7 : AV) (y8 : AV) (hh : Heap) : Option AV := loopAt gp vec_numbers.fn [true, false, true, false] (fun v h => freeze h v) ⟨frame 18 [(6, y6), (7, y7), (8, y8)], hh⟩
noncomputable def vec_numbers.f (a0 : AV) : Option AV :=
  (opLen false a0).bind fun v1 => vec_numbers.l0 a0 v1 (.int .i64 0) []
theorem vec_numbers.l0_eq (y6 : AV) (y7 : AV) (y8 : AV) (hh : Heap) : vec_numbers.l0 y6 y7 y8 hh =
    ((opBin .lss y8 y7).bind fun v2 => condK v2 ((opSidx 3 y6 y8).bind fun v3 => (opLoad hh (some 3) v3).bind fun v4 => (opStore (@HAppend.hAppend Heap Heap Heap _ hh [some [.bool false, .str ⟨#[]⟩, .str ⟨#[]⟩]]) 3 (.rp (List.length (hh : Heap)) 0) v4).bind fun h5 => (opLoad h5 (some 3) (.rp (List.length (hh : Heap)) 0)).bind fun v6 => (byVal (callW gp) h5 fid.rat_Check [v6]).bind fun v7 => (opBin .neq v7 (.int .i64 0)).bind fun v8 => condK v8 (freeze h5 v7) ((opBin .add y8 (.int .i64 1)).bind fun v9 => vec_numbers.l0 y6 y7 v9 h5)) (freeze hh (.int .i64 0))) :=
  (loopAt_eq gp vec_numbers.fn [true, false, true, false] (fun v h => freeze h v) ⟨frame 18 [(6, y6), (7, y7), (8, y8)], hh⟩).trans (by kernel_rfl)
theorem vec_numbers.eq (a0 : AV) : cv gp fid.vec_numbers [a0] = vec_numbers.f a0 :=
  (cv_eq gp fid.vec_numbers [a0] vec_numbers.fn_eq).trans (by kernel_rfl)

/-! gusset vec.points -/
noncomputable def vec_points.fn : AFun := (gp.fn fid.vec_points).getD default
theorem vec_points.fn_eq : gp.fn fid.vec_points = some vec_points.fn := by kernel_rfl
noncomputable def vec_points.l0 (y6 : AV) (y7 : AV) (y8 : AV) (hh : Heap) : Option AV := loopAt gp vec_points.fn [true, false, true, false] (fun v h => freeze h v) ⟨frame 18 [(6, y6), (7, y7), (8, y8)], hh⟩
noncomputable def vec_points.f (a0 : AV) : Option AV :=
  (opLen false a0).bind fun v1 => vec_points.l0 a0 v1 (.int .i64 0) []
theorem vec_points.l0_eq (y6 : AV) (y7 : AV) (y8 : AV) (hh : Heap) : vec_points.l0 y6 y7 y8 hh =
    ((opBin .lss y8 y7).bind fun v2 => condK v2 ((opSidx 6 y6 y8).bind fun v3 => (opLoad hh (some 6) v3).bind fun v4 => (opStore (@HAppend.hAppend Heap Heap Heap _ hh [some [.bool false, .str ⟨#[]⟩, .str ⟨#[]⟩, .bool false, .str ⟨#[]⟩, .str ⟨#[]⟩]]) 6 (.rp (List.length (hh : Heap)) 0) v4).bind fun h5 => (opLoad h5 (some 6) (.rp (List.length (hh : Heap)) 0)).bind fun v6 => (byVal (callW gp) h5 fid.vec_Check [v6]).bind fun v7 => (opBin .neq v7 (.int .i64 0)).bind fun v8 => condK v8 (freeze h5 v7) ((opBin .add y8 (.int .i64 1)).bind fun v9 => vec_points.l0 y6 y7 v9 h5)) (freeze hh (.int .i64 0))) :=
  (loopAt_eq gp vec_points.fn [true, false, true, false] (fun v h => freeze h v) ⟨frame 18 [(6, y6), (7, y7), (8, y8)], hh⟩).trans (by kernel_rfl)
theorem vec_points.eq (a0 : AV) : cv gp fid.vec_points [a0] = vec_points.f a0 :=
  (cv_eq gp fid.vec_points [a0] vec_points.fn_eq).trans (by kernel_rfl)

/-! gusset vec.pair -/
noncomputable def vec_pair.fn : AFun := (gp.fn fid.vec_pair).getD default
theorem vec_pair.fn_eq : gp.fn fid.vec_pair = some vec_pair.fn := by kernel_rfl
noncomputable def vec_pair.f (a0 : AV) (a1 : AV) (a2 : AV) (a3 : AV) (a4 : AV) : Option AV :=
  (opBox [] a0).bind fun r1 => (opBox r1.2 a1).bind fun r2 => (opBox r2.2 a2).bind fun r3 => (opBox r3.2 a3).bind fun r4 => (opLoad (@HAppend.hAppend Heap Heap Heap _ r4.2 [some [.bool false, .str ⟨#[]⟩, .str ⟨#[]⟩]]) (some 3) r1.1).bind fun v5 => (opLoad (@HAppend.hAppend Heap Heap Heap _ r4.2 [some [.bool false, .str ⟨#[]⟩, .str ⟨#[]⟩]]) (some 3) r3.1).bind fun v6 => (opLoad (@HAppend.hAppend Heap Heap Heap _ r4.2 [some [.bool false, .str ⟨#[]⟩, .str ⟨#[]⟩]]) (some 3) r2.1).bind fun v7 => (opLoad (@HAppend.hAppend Heap Heap Heap _ r4.2 [some [.bool false, .str ⟨#[]⟩, .str ⟨#[]⟩]]) (some 3) r4.1).bind fun v8 => (opBslc 3 4 [.bool false, .str ⟨#[]⟩, .str ⟨#[]⟩] [(0, v5), (1, v6), (2, v7), (3, v8)]).bind fun v9 => (byVal (callW gp) (@HAppend.hAppend Heap Heap Heap _ r4.2 [some [.bool false, .str ⟨#[]⟩, .str ⟨#[]⟩]]) fid.vec_numbers [v9]).bind fun v10 => (opBin .neq v10 (.int .i64 0)).bind fun v11 => condK v11 ((opBld [.bool false, .str ⟨#[]⟩, .str ⟨#[]⟩] []).bind fun v12 => (opStore (@HAppend.hAppend Heap Heap Heap _ r4.2 [some [.bool false, .str ⟨#[]⟩, .str ⟨#[]⟩]]) 3 (.rp (List.length (r4.2 : Heap)) 0) v12).bind fun h13 => (opLoad h13 (some 3) (.rp (List.length (r4.2 : Heap)) 0)).bind fun v14 => freeze h13 (.tup [v14, v10])) ((opLoad (@HAppend.hAppend Heap Heap Heap _ r4.2 [some [.bool false, .str ⟨#[]⟩, .str ⟨#[]⟩]]) (some 3) r1.1).bind fun v15 => (opLoad (@HAppend.hAppend Heap Heap Heap _ r4.2 [some [.bool false, .str ⟨#[]⟩, .str ⟨#[]⟩]]) (some 3) r2.1).bind fun v16 => (byVal (callW gp) (@HAppend.hAppend Heap Heap Heap _ r4.2 [some [.bool false, .str ⟨#[]⟩, .str ⟨#[]⟩]]) fid.vec_op_of [(.fn fid.rat_Mul []), v15, v16]).bind fun v17 => (opLoad (@HAppend.hAppend Heap Heap Heap _ r4.2 [some [.bool false, .str ⟨#[]⟩, .str ⟨#[]⟩]]) (some 3) r3.1).bind fun v18 => (opLoad (@HAppend.hAppend Heap Heap Heap _ r4.2 [some [.bool false, .str ⟨#[]⟩, .str ⟨#[]⟩]]) (some 3) r4.1).bind fun v19 => (byVal (callW gp) (@HAppend.hAppend Heap Heap Heap _ r4.2 [some [.bool false, .str ⟨#[]⟩, .str ⟨#[]⟩]]) fid.vec_op_of [(.fn fid.rat_Mul []), v18, v19]).bind fun v20 => (byVal (callW gp) (@HAppend.hAppend Heap Heap Heap _ r4.2 [some [.bool false, .str ⟨#[]⟩, .str ⟨#[]⟩]]) fid.vec_op_of [a4, v17, v20]).bind fun v21 => (opStore (@HAppend.hAppend Heap Heap Heap _ r4.2 [some [.bool false, .str ⟨#[]⟩, .str ⟨#[]⟩]]) 3 (.rp (List.length (r4.2 : Heap)) 0) v21).bind fun h22 => (opLoad h22 (some 3) (.rp (List.length (r4.2 : Heap)) 0)).bind fun v23 => freeze h22 (.tup [v23, (.int .i64 0)]))
theorem vec_pair.eq (a0 : AV) (a1 : AV) (a2 : AV) (a3 : AV) (a4 : AV) : cv gp fid.vec_pair [a0, a1, a2, a3, a4] = vec_pair.f a0 a1 a2 a3 a4 :=
  (cv_eq gp fid.vec_pair [a0, a1, a2, a3, a4] vec_pair.fn_eq).trans (by kernel_rfl)

/-! gusset vec.each -/
noncomputable def vec_each.fn : AFun := (gp.fn fid.vec_each).getD default
theorem vec_each.fn_eq : gp.fn fid.vec_each = some vec_each.fn := by kernel_rfl
noncomputable def vec_each.f (a0 : AV) (a1 : AV) (a2 : AV) : Option AV :=
  (opBox [] a0).bind fun r1 => (opBox r1.2 a1).bind fun r2 => (opLoad (@HAppend.hAppend Heap Heap Heap _ r2.2 [some [.bool false, .str ⟨#[]⟩, .str ⟨#[]⟩, .bool false, .str ⟨#[]⟩, .str ⟨#[]⟩]]) (some 6) r1.1).bind fun v3 => (opLoad (@HAppend.hAppend Heap Heap Heap _ r2.2 [some [.bool false, .str ⟨#[]⟩, .str ⟨#[]⟩, .bool false, .str ⟨#[]⟩, .str ⟨#[]⟩]]) (some 6) r2.1).bind fun v4 => (opBslc 6 2 [.bool false, .str ⟨#[]⟩, .str ⟨#[]⟩, .bool false, .str ⟨#[]⟩, .str ⟨#[]⟩] [(0, v3), (1, v4)]).bind fun v5 => (byVal (callW gp) (@HAppend.hAppend Heap Heap Heap _ r2.2 [some [.bool false, .str ⟨#[]⟩, .str ⟨#[]⟩, .bool false, .str ⟨#[]⟩, .str ⟨#[]⟩]]) fid.vec_points [v5]).bind fun v6 => (opBin .neq v6 (.int .i64 0)).bind fun v7 => condK v7 ((opBld [.bool false, .str ⟨#[]⟩, .str ⟨#[]⟩, .bool false, .str ⟨#[]⟩, .str ⟨#[]⟩] []).bind fun v8 => (opStore (@HAppend.hAppend Heap Heap Heap _ r2.2 [some [.bool false, .str ⟨#[]⟩, .str ⟨#[]⟩, .bool false, .str ⟨#[]⟩, .str ⟨#[]⟩]]) 6 (.rp (List.length (r2.2 : Heap)) 0) v8).bind fun h9 => (opLoad h9 (some 6) (.rp (List.length (r2.2 : Heap)) 0)).bind fun v10 => freeze h9 (.tup [v10, v6])) ((opFaddr 0 r1.1).bind fun v11 => (opLoad (@HAppend.hAppend Heap Heap Heap _ r2.2 [some [.bool false, .str ⟨#[]⟩, .str ⟨#[]⟩, .bool false, .str ⟨#[]⟩, .str ⟨#[]⟩]]) (some 3) v11).bind fun v12 => (opFaddr 0 r2.1).bind fun v13 => (opLoad (@HAppend.hAppend Heap Heap Heap _ r2.2 [some [.bool false, .str ⟨#[]⟩, .str ⟨#[]⟩, .bool false, .str ⟨#[]⟩, .str ⟨#[]⟩]]) (some 3) v13).bind fun v14 => (byVal (callW gp) (@HAppend.hAppend Heap Heap Heap _ r2.2 [some [.bool false, .str ⟨#[]⟩, .str ⟨#[]⟩, .bool false, .str ⟨#[]⟩, .str ⟨#[]⟩]]) fid.vec_op_of [a2, v12, v14]).bind fun v15 => (opFaddr 3 r1.1).bind fun v16 => (opLoad (@HAppend.hAppend Heap Heap Heap _ r2.2 [some [.bool false, .str ⟨#[]⟩, .str ⟨#[]⟩, .bool false, .str ⟨#[]⟩, .str ⟨#[]⟩]]) (some 3) v16).bind fun v17 => (opFaddr 3 r2.1).bind fun v18 => (opLoad (@HAppend.hAppend Heap Heap Heap _ r2.2 [some [.bool false, .str ⟨#[]⟩, .str ⟨#[]⟩, .bool false, .str ⟨#[]⟩, .str ⟨#[]⟩]]) (some 3) v18).bind fun v19 => (byVal (callW gp) (@HAppend.hAppend Heap Heap Heap _ r2.2 [some [.bool false, .str ⟨#[]⟩, .str ⟨#[]⟩, .bool false, .str ⟨#[]⟩, .str ⟨#[]⟩]]) fid.vec_op_of [a2, v17, v19]).bind fun v20 => (opBld [.bool false, .str ⟨#[]⟩, .str ⟨#[]⟩, .bool false, .str ⟨#[]⟩, .str ⟨#[]⟩] [(0, 3, v15), (3, 3, v20)]).bind fun v21 => (opStore (@HAppend.hAppend Heap Heap Heap _ r2.2 [some [.bool false, .str ⟨#[]⟩, .str ⟨#[]⟩, .bool false, .str ⟨#[]⟩, .str ⟨#[]⟩]]) 6 (.rp (List.length (r2.2 : Heap)) 0) v21).bind fun h22 => (opLoad h22 (some 6) (.rp (List.length (r2.2 : Heap)) 0)).bind fun v23 => freeze h22 (.tup [v23, (.int .i64 0)]))
theorem vec_each.eq (a0 : AV) (a1 : AV) (a2 : AV) : cv gp fid.vec_each [a0, a1, a2] = vec_each.f a0 a1 a2 :=
  (cv_eq gp fid.vec_each [a0, a1, a2] vec_each.fn_eq).trans (by kernel_rfl)

/-! (gusset vec.op).of -/
noncomputable def vec_op_of.fn : AFun := (gp.fn fid.vec_op_of).getD default
theorem vec_op_of.fn_eq : gp.fn fid.vec_op_of = some vec_op_of.fn := by kernel_rfl
noncomputable def vec_op_of.f (a0 : AV) (a1 : AV) (a2 : AV) : Option AV :=
  (opBox [] a1).bind fun r1 => (opBox r1.2 a2).bind fun r2 => (opLoad (@HAppend.hAppend Heap Heap Heap _ r2.2 [some [.bool false, .str ⟨#[]⟩, .str ⟨#[]⟩]]) (some 3) r1.1).bind fun v3 => (opLoad (@HAppend.hAppend Heap Heap Heap _ r2.2 [some [.bool false, .str ⟨#[]⟩, .str ⟨#[]⟩]]) (some 3) r2.1).bind fun v4 => callK' (callW gp) gp.refm (@HAppend.hAppend Heap Heap Heap _ r2.2 [some [.bool false, .str ⟨#[]⟩, .str ⟨#[]⟩]]) a0 [v3, v4] fun v5 h6 => (opExt 0 v5).bind fun v7 => (opExt 1 v5).bind fun v8 => (opStore (@HAppend.hAppend Heap Heap Heap _ h6 [some [.bool false, .str ⟨#[]⟩, .str ⟨#[]⟩]]) 3 (.rp (List.length (h6 : Heap)) 0) v7).bind fun h9 => (opLoad h9 (some 3) (.rp (List.length (h6 : Heap)) 0)).bind fun v10 => (opStore h9 3 (.rp (List.length (r2.2 : Heap)) 0) v10).bind fun h11 => (opLoad h11 (some 3) (.rp (List.length (r2.2 : Heap)) 0)).bind fun v12 => freeze h11 v12
theorem vec_op_of.eq (a0 : AV) (a1 : AV) (a2 : AV) : cv gp fid.vec_op_of [a0, a1, a2] = vec_op_of.f a0 a1 a2 :=
  (cv_eq gp fid.vec_op_of [a0, a1, a2] vec_op_of.fn_eq).trans (by kernel_rfl)

end Go.Proofs.YtojfiboeghonoaaGreat.Am
