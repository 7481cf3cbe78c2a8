import Derived.Test.YtcpmkohlmjakmaaGreatDoorAmGp
set_option linter.unusedVariables false
set_option maxRecDepth 10000
set_option maxHeartbeats 0
namespace Go.Proofs.YtcpmkohlmjakmaaGreatDoor.Am
open Go
/-! gusset gussetlaw07.few -/
noncomputable def gussetlaw07_few.fn : AFun := (gp.fn fid.gussetlaw07_few).getD default
theorem gussetlaw07_few.fn_eq : gp.fn fid.gussetlaw07_few = some gussetlaw07_few.fn := by kernel_rfl
noncomputable def gussetlaw07_few.l0 (y2 : AV) (y3 : AV) (y5 : AV) (hh : Heap) : Option AV := loopAt gp gussetlaw07_few.fn [true, false, true, false] (fun v h => freeze h v) ⟨frame 34 [(2, y2), (3, y3), (5, y5)], hh⟩
noncomputable def gussetlaw07_few.l1 (y3 : AV) (y6 : AV) (hh : Heap) : Option AV := loopAt gp gussetlaw07_few.fn [true, true, false, true, false] (fun v h => freeze h v) ⟨frame 34 [(3, y3), (6, y6)], hh⟩
noncomputable def gussetlaw07_few.f (a0 : AV) (a1 : AV) : Option AV :=
  (opBox [] a0).bind fun r1 => (opBox r1.2 a1).bind fun r2 => gussetlaw07_few.l0 r1.1 r2.1 (.int .i64 0) r2.2
theorem gussetlaw07_few.l0_eq (y2 : AV) (y3 : AV) (y5 : AV) (hh : Heap) : gussetlaw07_few.l0 y2 y3 y5 hh =
    ((opBin .lss y5 (.int .i64 6)).bind fun v3 => condK v3 ((opAidx 3 6 y2 y5).bind fun v4 => (opLoad hh (some 3) v4).bind fun v5 => (byVal (callW gp) hh fid.gussetlaw07_short [v5]).bind fun v6 => (opUn .not v6).bind fun v7 => condK v7 (freeze hh (.bool false)) ((opBin .add y5 (.int .i64 1)).bind fun v8 => gussetlaw07_few.l0 y2 y3 v8 hh)) (gussetlaw07_few.l1 y3 (.int .i64 0) hh)) :=
  (loopAt_eq gp gussetlaw07_few.fn [true, false, true, false] (fun v h => freeze h v) ⟨frame 34 [(2, y2), (3, y3), (5, y5)], hh⟩).trans (by kernel_rfl)
theorem gussetlaw07_few.l1_eq (y3 : AV) (y6 : AV) (hh : Heap) : gussetlaw07_few.l1 y3 y6 hh =
    ((opBin .lss y6 (.int .i64 3)).bind fun v9 => condK v9 ((opAidx 6 3 y3 y6).bind fun v10 => (opFaddr 0 v10).bind fun v11 => (opLoad hh (some 3) v11).bind fun v12 => (byVal (callW gp) hh fid.gussetlaw07_short [v12]).bind fun v13 => (opUn .not v13).bind fun v14 => guardK v14 false ((opAidx 6 3 y3 y6).bind fun v15 => (opFaddr 3 v15).bind fun v16 => (opLoad hh (some 3) v16).bind fun v17 => (byVal (callW gp) hh fid.gussetlaw07_short [v17]).bind fun v18 => (opUn .not v18).bind fun v19 => condK v19 (freeze hh (.bool false)) ((opBin .add y6 (.int .i64 1)).bind fun v20 => gussetlaw07_few.l1 y3 v20 hh)) (freeze hh (.bool false))) (freeze hh (.bool true))) :=
  (loopAt_eq gp gussetlaw07_few.fn [true, true, false, true, false] (fun v h => freeze h v) ⟨frame 34 [(3, y3), (6, y6)], hh⟩).trans (by kernel_rfl)
theorem gussetlaw07_few.eq (a0 : AV) (a1 : AV) : cv gp fid.gussetlaw07_few [a0, a1] = gussetlaw07_few.f a0 a1 :=
  (cv_eq gp fid.gussetlaw07_few [a0, a1] gussetlaw07_few.fn_eq).trans (by kernel_rfl)

/-! gusset gussetlaw07.live -/
noncomputable def gussetlaw07_live.fn : AFun := (gp.fn fid.gussetlaw07_live).getD default
theorem gussetlaw07_live.fn_eq : gp.fn fid.gussetlaw07_live = some gussetlaw07_live.fn := by kernel_rfl
noncomputable def gussetlaw07_live.f  : Option AV :=
  (opBld [.int .i64 0, .int .i64 0, .int .i64 0, .int .i64 0, .int .i64 0, .int .i64 0] [(0, 1, (.int .i64 0)), (1, 1, (.int .i64 1)), (2, 1, (.int .i64 0)), (3, 1, (.int .i64 0)), (4, 1, (.int .i64 0)), (5, 1, (.int .i64 0))]).bind fun v1 => (byVal (callW gp) [] fid.gussetlaw07_small [v1]).bind fun v2 => (byVal (callW gp) [] fid.gussetlaw07_at [(.int .i64 0), (.int .i64 0)]).bind fun v3 => (byVal (callW gp) [] fid.gussetlaw07_at [(.int .i64 2), (.int .i64 0)]).bind fun v4 => (byVal (callW gp) [] fid.gussetlaw07_at [(.int .i64 0), (.int .i64 2)]).bind fun v5 => (byVal (callW gp) [] fid.poly_Integral [v2, v3, v4, v5]).bind fun v6 => (opExt 0 v6).bind fun v7 => (opExt 1 v6).bind fun v8 => (opStore [some [.bool false, .str ⟨#[]⟩, .str ⟨#[]⟩]] 3 (.rp 0 0) v7).bind fun h9 => (opBld [.int .i64 0, .int .i64 0, .int .i64 0, .int .i64 0, .int .i64 0, .int .i64 0] [(0, 1, (.int .i64 0)), (1, 1, (.int .i64 1)), (2, 1, (.int .i64 0)), (3, 1, (.int .i64 0)), (4, 1, (.int .i64 0)), (5, 1, (.int .i64 0))]).bind fun v10 => (byVal (callW gp) h9 fid.gussetlaw07_small [v10]).bind fun v11 => (byVal (callW gp) h9 fid.gussetlaw07_at [(.int .i64 0), (.int .i64 0)]).bind fun v12 => (byVal (callW gp) h9 fid.gussetlaw07_at [(.int .i64 1), (.int .i64 0)]).bind fun v13 => (byVal (callW gp) h9 fid.gussetlaw07_at [(.int .i64 0), (.int .i64 1)]).bind fun v14 => (byVal (callW gp) h9 fid.poly_Square [v11, v12, v13, v14]).bind fun v15 => (opExt 0 v15).bind fun v16 => (opExt 1 v15).bind fun v17 => (opStore (@HAppend.hAppend Heap Heap Heap _ h9 [some [.bool false, .str ⟨#[]⟩, .str ⟨#[]⟩]]) 3 (.rp (List.length (h9 : Heap)) 0) v16).bind fun h18 => (opBld [.int .i64 0, .int .i64 0, .int .i64 0, .int .i64 0, .int .i64 0, .int .i64 0] [(0, 1, (.int .i64 1)), (1, 1, (.int .i64 0)), (2, 1, (.int .i64 0)), (3, 1, (.int .i64 0)), (4, 1, (.int .i64 0)), (5, 1, (.int .i64 0))]).bind fun v19 => (byVal (callW gp) h18 fid.gussetlaw07_small [v19]).bind fun v20 => (byVal (callW gp) h18 fid.gussetlaw07_at [(.int .i64 0), (.int .i64 0)]).bind fun v21 => (byVal (callW gp) h18 fid.gussetlaw07_at [(.int .i64 1), (.int .i64 0)]).bind fun v22 => (byVal (callW gp) h18 fid.gussetlaw07_at [(.int .i64 2), (.int .i64 0)]).bind fun v23 => (byVal (callW gp) h18 fid.poly_Loads [v20, v21, v22, v23]).bind fun v24 => (opExt 0 v24).bind fun v25 => (opExt 1 v24).bind fun v26 => (opStore (@HAppend.hAppend Heap Heap Heap _ h18 [some [.bool false, .str ⟨#[]⟩, .str ⟨#[]⟩, .bool false, .str ⟨#[]⟩, .str ⟨#[]⟩, .bool false, .str ⟨#[]⟩, .str ⟨#[]⟩]]) 9 (.rp (List.length (h18 : Heap)) 0) v25).bind fun h27 => (opLoad h27 (some 3) (.rp 0 0)).bind fun v28 => (byVal (callW gp) h27 fid.gussetref03_Frac [(.int .i64 4), (.int .i64 3)]).bind fun v29 => (opEqa false [.b, .s, .s] v28 v29).bind fun v30 => guardK v30 true ((opBin .eql v8 (.int .i64 0)).bind fun v31 => guardK v31 true ((opLoad h27 (some 3) (.rp (List.length (h9 : Heap)) 0)).bind fun v32 => (byVal (callW gp) h27 fid.gussetref03_Frac [(.int .i64 1), (.int .i64 12)]).bind fun v33 => (opEqa false [.b, .s, .s] v32 v33).bind fun v34 => guardK v34 true ((opBin .eql v17 (.int .i64 0)).bind fun v35 => guardK v35 true ((opBin .eql v26 (.int .i64 6)).bind fun v36 => freeze h27 v36) (freeze h27 (.bool false))) (freeze h27 (.bool false))) (freeze h27 (.bool false))) (freeze h27 (.bool false))
theorem gussetlaw07_live.eq  : cv gp fid.gussetlaw07_live [] = gussetlaw07_live.f  :=
  (cv_eq gp fid.gussetlaw07_live [] gussetlaw07_live.fn_eq).trans (by kernel_rfl)

/-! gusset gussetlaw07.between -/
noncomputable def gussetlaw07_between.fn : AFun := (gp.fn fid.gussetlaw07_between).getD default
theorem gussetlaw07_between.fn_eq : gp.fn fid.gussetlaw07_between = some gussetlaw07_between.fn := by kernel_rfl
noncomputable def gussetlaw07_between.f (a0 : AV) (a1 : AV) (a2 : AV) : Option AV :=
  (opBox [] a0).bind fun r1 => (opBox r1.2 a1).bind fun r2 => (opBox r2.2 a2).bind fun r3 => (opLoad (@HAppend.hAppend Heap Heap Heap _ r3.2 [some [.bool false, .str ⟨#[]⟩, .str ⟨#[]⟩]]) (some 3) r1.1).bind fun v4 => (opLoad (@HAppend.hAppend Heap Heap Heap _ r3.2 [some [.bool false, .str ⟨#[]⟩, .str ⟨#[]⟩]]) (some 3) r2.1).bind fun v5 => (opLoad (@HAppend.hAppend Heap Heap Heap _ r3.2 [some [.bool false, .str ⟨#[]⟩, .str ⟨#[]⟩]]) (some 3) r1.1).bind fun v6 => (byVal (callW gp) (@HAppend.hAppend Heap Heap Heap _ r3.2 [some [.bool false, .str ⟨#[]⟩, .str ⟨#[]⟩]]) fid.gussetref03_Less [v5, v6]).bind fun v7 => (opLoad (@HAppend.hAppend Heap Heap Heap _ r3.2 [some [.bool false, .str ⟨#[]⟩, .str ⟨#[]⟩]]) (some 3) r3.1).bind fun v8 => (byVal (callW gp) (@HAppend.hAppend Heap Heap Heap _ r3.2 [some [.bool false, .str ⟨#[]⟩, .str ⟨#[]⟩]]) fid.gussetref03_Times [v7, v8]).bind fun v9 => (byVal (callW gp) (@HAppend.hAppend Heap Heap Heap _ r3.2 [some [.bool false, .str ⟨#[]⟩, .str ⟨#[]⟩]]) fid.gussetref03_Sum [v4, v9]).bind fun v10 => (opStore (@HAppend.hAppend Heap Heap Heap _ r3.2 [some [.bool false, .str ⟨#[]⟩, .str ⟨#[]⟩]]) 3 (.rp (List.length (r3.2 : Heap)) 0) v10).bind fun h11 => (opLoad h11 (some 3) (.rp (List.length (r3.2 : Heap)) 0)).bind fun v12 => freeze h11 v12
theorem gussetlaw07_between.eq (a0 : AV) (a1 : AV) (a2 : AV) : cv gp fid.gussetlaw07_between [a0, a1, a2] = gussetlaw07_between.f a0 a1 a2 :=
  (cv_eq gp fid.gussetlaw07_between [a0, a1, a2] gussetlaw07_between.fn_eq).trans (by kernel_rfl)

/-! gusset gussetlaw07.short -/
noncomputable def gussetlaw07_short.fn : AFun := (gp.fn fid.gussetlaw07_short).getD default
theorem gussetlaw07_short.fn_eq : gp.fn fid.gussetlaw07_short = some gussetlaw07_short.fn := by kernel_rfl
noncomputable def gussetlaw07_short.f (a0 : AV) : Option AV :=
  (opBox [] a0).bind fun r1 => (opFaddr 0 r1.1).bind fun v2 => (opFaddr 1 v2).bind fun v3 => (opLoad r1.2 none v3).bind fun v4 => (opLen true v4).bind fun v5 => (opBin .leq v5 (.int .i64 30)).bind fun v6 => guardK v6 true ((opFaddr 2 r1.1).bind fun v7 => (opLoad r1.2 none v7).bind fun v8 => (opLen true v8).bind fun v9 => (opBin .leq v9 (.int .i64 30)).bind fun v10 => freeze r1.2 v10) (freeze r1.2 (.bool false))
theorem gussetlaw07_short.eq (a0 : AV) : cv gp fid.gussetlaw07_short [a0] = gussetlaw07_short.f a0 :=
  (cv_eq gp fid.gussetlaw07_short [a0] gussetlaw07_short.fn_eq).trans (by kernel_rfl)

/-! gusset gussetlaw07.small -/
noncomputable def gussetlaw07_small.fn : AFun := (gp.fn fid.gussetlaw07_small).getD default
theorem gussetlaw07_small.fn_eq : gp.fn fid.gussetlaw07_small = some gussetlaw07_small.fn := by kernel_rfl
noncomputable def gussetlaw07_small.l0 (y1 : AV) (y2 : AV) (y3 : AV) (y4 : AV) (hh : Heap) : Option AV := loopAt gp gussetlaw07_small.fn [true, true, false, true, false] (fun v h => freeze h v) ⟨frame 16 [(1, y1), (2, y2), (3, y3), (4, y4)], hh⟩
noncomputable def gussetlaw07_small.f (a0 : AV) : Option AV :=
  (opBox [] a0).bind fun r1 => gussetlaw07_small.l0 r1.1 (.rp (List.length (r1.2 : Heap)) 0) (.rp (List.length ((@HAppend.hAppend Heap Heap Heap _ r1.2 [some [.bool false, .str ⟨#[]⟩, .str ⟨#[]⟩, .bool false, .str ⟨#[]⟩, .str ⟨#[]⟩, .bool false, .str ⟨#[]⟩, .str ⟨#[]⟩, .bool false, .str ⟨#[]⟩, .str ⟨#[]⟩, .bool false, .str ⟨#[]⟩, .str ⟨#[]⟩, .bool false, .str ⟨#[]⟩, .str ⟨#[]⟩]]) : Heap)) 0) (.int .i64 0) (@HAppend.hAppend Heap Heap Heap _ (@HAppend.hAppend Heap Heap Heap _ r1.2 [some [.bool false, .str ⟨#[]⟩, .str ⟨#[]⟩, .bool false, .str ⟨#[]⟩, .str ⟨#[]⟩, .bool false, .str ⟨#[]⟩, .str ⟨#[]⟩, .bool false, .str ⟨#[]⟩, .str ⟨#[]⟩, .bool false, .str ⟨#[]⟩, .str ⟨#[]⟩, .bool false, .str ⟨#[]⟩, .str ⟨#[]⟩]]) [some [.bool false, .str ⟨#[]⟩, .str ⟨#[]⟩, .bool false, .str ⟨#[]⟩, .str ⟨#[]⟩, .bool false, .str ⟨#[]⟩, .str ⟨#[]⟩, .bool false, .str ⟨#[]⟩, .str ⟨#[]⟩, .bool false, .str ⟨#[]⟩, .str ⟨#[]⟩, .bool false, .str ⟨#[]⟩, .str ⟨#[]⟩]])
theorem gussetlaw07_small.l0_eq (y1 : AV) (y2 : AV) (y3 : AV) (y4 : AV) (hh : Heap) : gussetlaw07_small.l0 y1 y2 y3 y4 hh =
    ((opBin .lss y4 (.int .i64 6)).bind fun v2 => condK v2 ((opAidx 1 6 y1 y4).bind fun v3 => (opLoad hh none v3).bind fun v4 => (byVal (callW gp) hh fid.gussetref03_Of [v4]).bind fun v5 => (opAidx 3 6 y3 y4).bind fun v6 => (opStore hh 3 v6 v5).bind fun h7 => (opBin .add y4 (.int .i64 1)).bind fun v8 => gussetlaw07_small.l0 y1 y2 y3 v8 h7) ((opLoad hh (some 18) y3).bind fun v9 => (opStore hh 18 y2 v9).bind fun h10 => (opLoad h10 (some 18) y2).bind fun v11 => freeze h10 v11)) :=
  (loopAt_eq gp gussetlaw07_small.fn [true, true, false, true, false] (fun v h => freeze h v) ⟨frame 16 [(1, y1), (2, y2), (3, y3), (4, y4)], hh⟩).trans (by kernel_rfl)
theorem gussetlaw07_small.eq (a0 : AV) : cv gp fid.gussetlaw07_small [a0] = gussetlaw07_small.f a0 :=
  (cv_eq gp fid.gussetlaw07_small [a0] gussetlaw07_small.fn_eq).trans (by kernel_rfl)

/-! gusset gussetlaw07.at -/
noncomputable def gussetlaw07_at.fn : AFun := (gp.fn fid.gussetlaw07_at).getD default
theorem gussetlaw07_at.fn_eq : gp.fn fid.gussetlaw07_at = some gussetlaw07_at.fn := by kernel_rfl
noncomputable def gussetlaw07_at.f (a0 : AV) (a1 : AV) : Option AV :=
  (byVal (callW gp) [some [.bool false, .str ⟨#[]⟩, .str ⟨#[]⟩, .bool false, .str ⟨#[]⟩, .str ⟨#[]⟩]] fid.gussetref03_Of [a0]).bind fun v1 => (byVal (callW gp) [some [.bool false, .str ⟨#[]⟩, .str ⟨#[]⟩, .bool false, .str ⟨#[]⟩, .str ⟨#[]⟩]] fid.gussetref03_Of [a1]).bind fun v2 => (opBld [.bool false, .str ⟨#[]⟩, .str ⟨#[]⟩, .bool false, .str ⟨#[]⟩, .str ⟨#[]⟩] [(0, 3, v1), (3, 3, v2)]).bind fun v3 => (opStore [some [.bool false, .str ⟨#[]⟩, .str ⟨#[]⟩, .bool false, .str ⟨#[]⟩, .str ⟨#[]⟩]] 6 (.rp 0 0) v3).bind fun h4 => (opLoad h4 (some 6) (.rp 0 0)).bind fun v5 => freeze h4 v5
theorem gussetlaw07_at.eq (a0 : AV) (a1 : AV) : cv gp fid.gussetlaw07_at [a0, a1] = gussetlaw07_at.f a0 a1 :=
  (cv_eq gp fid.gussetlaw07_at [a0, a1] gussetlaw07_at.fn_eq).trans (by kernel_rfl)

end Go.Proofs.YtcpmkohlmjakmaaGreatDoor.Am