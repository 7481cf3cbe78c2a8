import Derived.Test.YtojfiboeghonoaaGreatAmGp
set_option linter.unusedVariables false
set_option maxRecDepth 10000
set_option maxHeartbeats 0
namespace Go.Proofs.YtojfiboeghonoaaGreat.Am
open Go
/-! gusset gussetlaw12.LocateFinds -/
/-! gusset gussetlaw12.LocateWalks -/
/-! gusset gussetlaw12.LocateFans -/
noncomputable def gussetlaw12_LocateFans.fn : AFun := (gp.fn fid.gussetlaw12_LocateFans).getD default
theorem gussetlaw12_LocateFans.fn_eq : gp.fn fid.gussetlaw12_LocateFans = some gussetlaw12_LocateFans.fn := by kernel_rfl
noncomputable def gussetlaw12_LocateFans.j0 (y1 : AV) (y2 : AV) (y5 : AV) (y6 : AV) (y25 : AV) (hh : Heap) : Option AV :=
  condK y25 ((opBin .eql y6 (.int .i64 1)).bind fun v15 => guardK v15 true ((opLen false y5).bind fun v16 => (opBin .eql v16 (.int .i64 0)).bind fun v17 => guardK v17 true ((byVal (callW gp) hh fid.gussetlaw12_live []).bind fun v18 => freeze hh v18) (freeze hh (.bool false))) (freeze hh (.bool false))) ((opBin .eql y6 (.int .i64 0)).bind fun v19 => guardK v19 true ((opLoad hh (some 3) y2).bind fun v20 => (byVal (callW gp) hh fid.gussetref12_Fan [v20, y1]).bind fun v21 => (byVal (callW gp) hh fid.gussetref09_SameInts [y5, v21]).bind fun v22 => guardK v22 true ((byVal (callW gp) hh fid.gussetlaw12_live []).bind fun v23 => freeze hh v23) (freeze hh (.bool false))) (freeze hh (.bool false)))
noncomputable def gussetlaw12_LocateFans.f (a0 : AV) (a1 : AV) : Option AV :=
  (opBox [] a0).bind fun r1 => (opLoad r1.2 (some 3) r1.1).bind fun v2 => (byVal (callW gp) r1.2 fid.gussetlaw12_small [v2]).bind fun v3 => (opUn .not v3).bind fun v4 => condK v4 ((byVal (callW gp) r1.2 fid.gussetlaw12_live []).bind fun v5 => freeze r1.2 v5) ((opLoad r1.2 (some 3) r1.1).bind fun v6 => (byVal (callW gp) r1.2 fid.locate_Fan [v6, a1]).bind fun v7 => (opExt 0 v7).bind fun v8 => (opExt 1 v7).bind fun v9 => (opBin .lss a1 (.int .i64 0)).bind fun v10 => guardK v10 false ((opFaddr 0 r1.1).bind fun v11 => (opLoad r1.2 none v11).bind fun v12 => (opLen false v12).bind fun v13 => (opBin .geq a1 v13).bind fun v14 => gussetlaw12_LocateFans.j0 a1 r1.1 v8 v9 v14 r1.2) (gussetlaw12_LocateFans.j0 a1 r1.1 v8 v9 (.bool true) r1.2))
theorem gussetlaw12_LocateFans.eq (a0 : AV) (a1 : AV) : cv gp fid.gussetlaw12_LocateFans [a0, a1] = gussetlaw12_LocateFans.f a0 a1 :=
  (cv_eq gp fid.gussetlaw12_LocateFans [a0, a1] gussetlaw12_LocateFans.fn_eq).trans (by kernel_rfl)

/-! gusset gussetlaw12.LocateValues -/
/-! gusset gussetlaw12.LocateEnds -/
/-! gusset gussetlaw12.LocateLinear -/
/-! gusset gussetlaw12.LocateHome -/
/-! gusset gussetlaw12.small -/
noncomputable def gussetlaw12_small.fn : AFun := (gp.fn fid.gussetlaw12_small).getD default
theorem gussetlaw12_small.fn_eq : gp.fn fid.gussetlaw12_small = some gussetlaw12_small.fn := by kernel_rfl
noncomputable def gussetlaw12_small.l0 (y1 : AV) (y3 : AV) (hh : Heap) : Option AV := loopAt gp gussetlaw12_small.fn [true, true, false, true, false] (fun v h => freeze h v) ⟨frame 48 [(1, y1), (3, y3)], hh⟩
noncomputable def gussetlaw12_small.f (a0 : AV) : Option AV :=
  (opBox [] a0).bind fun r1 => (opFaddr 0 r1.1).bind fun v2 => (opLoad r1.2 none v2).bind fun v3 => (opLen false v3).bind fun v4 => (opBin .gtr v4 (.int .i64 30)).bind fun v5 => guardK v5 false ((opFaddr 1 r1.1).bind fun v6 => (opLoad r1.2 none v6).bind fun v7 => (opLen false v7).bind fun v8 => (opBin .gtr v8 (.int .i64 45)).bind fun v9 => guardK v9 false ((opFaddr 2 r1.1).bind fun v10 => (opLoad r1.2 none v10).bind fun v11 => (opLen false v11).bind fun v12 => (opBin .gtr v12 (.int .i64 45)).bind fun v13 => condK v13 (freeze r1.2 (.bool false)) (gussetlaw12_small.l0 r1.1 (.int .i64 0) r1.2)) (freeze r1.2 (.bool false))) (freeze r1.2 (.bool false))
theorem gussetlaw12_small.l0_eq (y1 : AV) (y3 : AV) (hh : Heap) : gussetlaw12_small.l0 y1 y3 hh =
    ((opFaddr 0 y1).bind fun v14 => (opLoad hh none v14).bind fun v15 => (opLen false v15).bind fun v16 => (opBin .lss y3 v16).bind fun v17 => condK v17 ((opFaddr 0 y1).bind fun v18 => (opLoad hh none v18).bind fun v19 => (opSidx 6 v19 y3).bind fun v20 => (opFaddr 0 v20).bind fun v21 => (opLoad hh (some 3) v21).bind fun v22 => (byVal (callW gp) hh fid.gussetlaw12_short [v22]).bind fun v23 => (opUn .not v23).bind fun v24 => guardK v24 false ((opFaddr 0 y1).bind fun v25 => (opLoad hh none v25).bind fun v26 => (opSidx 6 v26 y3).bind fun v27 => (opFaddr 3 v27).bind fun v28 => (opLoad hh (some 3) v28).bind fun v29 => (byVal (callW gp) hh fid.gussetlaw12_short [v29]).bind fun v30 => (opUn .not v30).bind fun v31 => condK v31 (freeze hh (.bool false)) ((opBin .add y3 (.int .i64 1)).bind fun v32 => gussetlaw12_small.l0 y1 v32 hh)) (freeze hh (.bool false))) ((opLoad hh (some 3) y1).bind fun v33 => (byVal (callW gp) hh fid.gussetref11_Check [v33]).bind fun v34 => (opBin .eql v34 (.int .i64 0)).bind fun v35 => freeze hh v35)) :=
  (loopAt_eq gp gussetlaw12_small.fn [true, true, false, true, false] (fun v h => freeze h v) ⟨frame 48 [(1, y1), (3, y3)], hh⟩).trans (by kernel_rfl)
theorem gussetlaw12_small.eq (a0 : AV) : cv gp fid.gussetlaw12_small [a0] = gussetlaw12_small.f a0 :=
  (cv_eq gp fid.gussetlaw12_small [a0] gussetlaw12_small.fn_eq).trans (by kernel_rfl)

/-! gusset gussetlaw12.short -/
noncomputable def gussetlaw12_short.fn : AFun := (gp.fn fid.gussetlaw12_short).getD default
theorem gussetlaw12_short.fn_eq : gp.fn fid.gussetlaw12_short = some gussetlaw12_short.fn := by kernel_rfl
noncomputable def gussetlaw12_short.f (a0 : AV) : Option AV :=
  (opBox [] a0).bind fun r1 => (opFaddr 0 r1.1).bind fun v2 => (opFaddr 1 v2).bind fun v3 => (opLoad r1.2 none v3).bind fun v4 => (opLen true v4).bind fun v5 => (opBin .leq v5 (.int .i64 40)).bind fun v6 => guardK v6 true ((opFaddr 2 r1.1).bind fun v7 => (opLoad r1.2 none v7).bind fun v8 => (opLen true v8).bind fun v9 => (opBin .leq v9 (.int .i64 40)).bind fun v10 => freeze r1.2 v10) (freeze r1.2 (.bool false))
theorem gussetlaw12_short.eq (a0 : AV) : cv gp fid.gussetlaw12_short [a0] = gussetlaw12_short.f a0 :=
  (cv_eq gp fid.gussetlaw12_short [a0] gussetlaw12_short.fn_eq).trans (by kernel_rfl)

/-! gusset gussetlaw12.live -/
noncomputable def gussetlaw12_live.fn : AFun := (gp.fn fid.gussetlaw12_live).getD default
theorem gussetlaw12_live.fn_eq : gp.fn fid.gussetlaw12_live = some gussetlaw12_live.fn := by kernel_rfl
noncomputable def gussetlaw12_live.f  : Option AV :=
  (byVal (callW gp) [] fid.gussetlaw12_at [(.int .i64 0), (.int .i64 0)]).bind fun v1 => (byVal (callW gp) [] fid.gussetlaw12_at [(.int .i64 2), (.int .i64 0)]).bind fun v2 => (byVal (callW gp) [] fid.gussetlaw12_at [(.int .i64 2), (.int .i64 2)]).bind fun v3 => (byVal (callW gp) [] fid.gussetlaw12_at [(.int .i64 0), (.int .i64 2)]).bind fun v4 => (opBslc 6 4 [.bool false, .str ⟨#[]⟩, .str ⟨#[]⟩, .bool false, .str ⟨#[]⟩, .str ⟨#[]⟩] [(0, v1), (1, v2), (2, v3), (3, v4)]).bind fun v5 => (opBld [.int .i64 0, .int .i64 0, .int .i64 0] [(0, 1, (.int .i64 0)), (1, 1, (.int .i64 1)), (2, 1, (.int .i64 2))]).bind fun v6 => (opBld [.int .i64 0, .int .i64 0, .int .i64 0] [(0, 1, (.int .i64 0)), (1, 1, (.int .i64 2)), (2, 1, (.int .i64 3))]).bind fun v7 => (opBslc 3 2 [.int .i64 0, .int .i64 0, .int .i64 0] [(0, v6), (1, v7)]).bind fun v8 => (opBld [.is 0 true [], .is 0 true [], .is 0 true []] [(0, 1, v5), (1, 1, v8)]).bind fun v9 => (opStore [some [.is 0 true [], .is 0 true [], .is 0 true []]] 3 (.rp 0 0) v9).bind fun h10 => (opLoad h10 (some 3) (.rp 0 0)).bind fun v11 => (byVal (callW gp) h10 fid.gussetlaw12_at [(.int .i64 0), (.int .i64 1)]).bind fun v12 => (byVal (callW gp) h10 fid.locate_At [v11, v12]).bind fun v13 => (opExt 0 v13).bind fun v14 => (opExt 1 v13).bind fun v15 => (opExt 2 v13).bind fun v16 => (opLoad h10 (some 3) (.rp 0 0)).bind fun v17 => (byVal (callW gp) h10 fid.gussetlaw12_at [(.int .i64 0), (.int .i64 2)]).bind fun v18 => (byVal (callW gp) h10 fid.locate_Walk [v17, (.int .i64 0), v18]).bind fun v19 => (opExt 0 v19).bind fun v20 => (opExt 1 v19).bind fun v21 => (opLoad h10 (some 3) (.rp 0 0)).bind fun v22 => (byVal (callW gp) h10 fid.locate_Fan [v22, (.int .i64 2)]).bind fun v23 => (opExt 0 v23).bind fun v24 => (opExt 1 v23).bind fun v25 => (opLoad h10 (some 3) (.rp 0 0)).bind fun v26 => (byVal (callW gp) h10 fid.gussetref03_Of [(.int .i64 0)]).bind fun v27 => (byVal (callW gp) h10 fid.gussetref03_Of [(.int .i64 0)]).bind fun v28 => (byVal (callW gp) h10 fid.gussetref03_Of [(.int .i64 4)]).bind fun v29 => (byVal (callW gp) h10 fid.gussetref03_Of [(.int .i64 0)]).bind fun v30 => (opBslc 3 4 [.bool false, .str ⟨#[]⟩, .str ⟨#[]⟩] [(0, v27), (1, v28), (2, v29), (3, v30)]).bind fun v31 => (byVal (callW gp) h10 fid.gussetlaw12_at [(.int .i64 1), (.int .i64 1)]).bind fun v32 => (byVal (callW gp) h10 fid.locate_Value [v26, v31, v32]).bind fun v33 => (opExt 0 v33).bind fun v34 => (opExt 1 v33).bind fun v35 => (opExt 2 v33).bind fun v36 => (opStore (@HAppend.hAppend Heap Heap Heap _ h10 [some [.bool false, .str ⟨#[]⟩, .str ⟨#[]⟩]]) 3 (.rp (List.length (h10 : Heap)) 0) v34).bind fun h37 => (opBin .eql v14 (.int .i64 1)).bind fun v38 => guardK v38 true ((opBin .eql v15 (.int .i64 0)).bind fun v39 => guardK v39 true ((opBin .eql v16 (.int .i64 0)).bind fun v40 => guardK v40 true ((opBslc 1 2 [.int .i64 0] [(0, (.int .i64 0)), (1, (.int .i64 1))]).bind fun v41 => (byVal (callW gp) h37 fid.gussetref09_SameInts [v20, v41]).bind fun v42 => guardK v42 true ((opBin .eql v21 (.int .i64 0)).bind fun v43 => guardK v43 true ((opBslc 1 2 [.int .i64 0] [(0, (.int .i64 0)), (1, (.int .i64 1))]).bind fun v44 => (byVal (callW gp) h37 fid.gussetref09_SameInts [v24, v44]).bind fun v45 => guardK v45 true ((opBin .eql v25 (.int .i64 0)).bind fun v46 => guardK v46 true ((opLoad h37 (some 3) (.rp (List.length (h10 : Heap)) 0)).bind fun v47 => (byVal (callW gp) h37 fid.gussetref03_Of [(.int .i64 2)]).bind fun v48 => (opEqa false [.b, .s, .s] v47 v48).bind fun v49 => guardK v49 true (guardK v35 true ((opBin .eql v36 (.int .i64 0)).bind fun v50 => freeze h37 v50) (freeze h37 (.bool false))) (freeze h37 (.bool false))) (freeze h37 (.bool false))) (freeze h37 (.bool false))) (freeze h37 (.bool false))) (freeze h37 (.bool false))) (freeze h37 (.bool false))) (freeze h37 (.bool false))) (freeze h37 (.bool false))
theorem gussetlaw12_live.eq  : cv gp fid.gussetlaw12_live [] = gussetlaw12_live.f  :=
  (cv_eq gp fid.gussetlaw12_live [] gussetlaw12_live.fn_eq).trans (by kernel_rfl)

/-! gusset gussetlaw12.plane -/
/-! gusset gussetlaw12.at -/
noncomputable def gussetlaw12_at.fn : AFun := (gp.fn fid.gussetlaw12_at).getD default
theorem gussetlaw12_at.fn_eq : gp.fn fid.gussetlaw12_at = some gussetlaw12_at.fn := by kernel_rfl
noncomputable def gussetlaw12_at.f (a0 : AV) (a1 : AV) : Option AV :=
  (byVal (callW gp) [some [.bool false, .str ⟨#[]⟩, .str ⟨#[]⟩, .bool false, .str ⟨#[]⟩, .str ⟨#[]⟩]] fid.gussetref03_Of [a0]).bind fun v1 => (byVal (callW gp) [some [.bool false, .str ⟨#[]⟩, .str ⟨#[]⟩, .bool false, .str ⟨#[]⟩, .str ⟨#[]⟩]] fid.gussetref03_Of [a1]).bind fun v2 => (opBld [.bool false, .str ⟨#[]⟩, .str ⟨#[]⟩, .bool false, .str ⟨#[]⟩, .str ⟨#[]⟩] [(0, 3, v1), (3, 3, v2)]).bind fun v3 => (opStore [some [.bool false, .str ⟨#[]⟩, .str ⟨#[]⟩, .bool false, .str ⟨#[]⟩, .str ⟨#[]⟩]] 6 (.rp 0 0) v3).bind fun h4 => (opLoad h4 (some 6) (.rp 0 0)).bind fun v5 => freeze h4 v5
theorem gussetlaw12_at.eq (a0 : AV) (a1 : AV) : cv gp fid.gussetlaw12_at [a0, a1] = gussetlaw12_at.f a0 a1 :=
  (cv_eq gp fid.gussetlaw12_at [a0, a1] gussetlaw12_at.fn_eq).trans (by kernel_rfl)

end Go.Proofs.YtojfiboeghonoaaGreat.Am
